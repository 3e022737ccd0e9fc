/- For the law ResidualReach, for every input: printed by a program (wip/myprint), contracts by hand where it says MANUAL. -/
-- slim
import Derived.Test.YtbppeffcikphcaaPResidualReachx0
import Derived.Test.YtbppeffcikphcaaPResidualReachx6
import Derived.Test.YtbppeffcikphcaaPResidualReachx7
import Derived.Test.YtbppeffcikphcaaPResidualReachx8
import Derived.Test.YtbppeffcikphcaaPResidualReachx9
import Derived.Test.YtbppeffcikphcaaPResidualReachx11
import Derived.Test.YtbppeffcikphcaaPResidualReachx12
import Derived.Test.YtbppeffcikphcaaPResidualReachx13
import Derived.Test.YtbppeffcikphcaaPResidualReachx14
namespace Go.Proofs.Ytbppeffcikphcaa.PResidualReach
open Go.RowKit Go.Proofs.YtbppeffcikphcaaW.PrintWords Go.Proofs.YtbppeffcikphcaaW.PrintLast Go.Proofs.YtbppeffcikphcaaW.PrintMore
attribute [local go_sem] max2_int min2_int max_two min_two max_three min_three max_four min_four
set_option linter.unusedVariables false
set_option linter.unusedSimpArgs false
/-! ### racewaylaw6_ResidualReach: function 3 -/
mutual
def racewaylaw6_ResidualReach.j0 : Nat → Int → List Int → List Bool → List Bool → Bool → Int → Int → Int → List (S49) → Option (Bool)
 | 0, _, _, _, _, _, _, _, _, _ => none
 | k + 1, x16, x18, x20, x22, x110, x221000, x221001, x221002, x221003 => if x110 = true then (some false) else (racewaylaw6_ResidualReach.l0 k x16 x18 x20 x22 1 x221000 x221001 x221002 x221003)
def racewaylaw6_ResidualReach.l0 : Nat → Int → List Int → List Bool → List Bool → Int → Int → Int → Int → List (S49) → Option (Bool)
 | 0, _, _, _, _, _, _, _, _, _ => none
 | k + 1, x16, x18, x20, x22, x24, x221000, x221001, x221002, x221003 => if x24 ≤ x221000 then (if 0 ≤ x24 then (if x24 < (x22.length : Int) then (if rdOf false x22 x24 = true then (if x24 < (x20.length : Int) then (racewaylaw6_ResidualReach.j2 k x16 x18 x20 x22 x24 (!(rdOf false x20 x24)) x221000 x221001 x221002 x221003) else (none)) else (racewaylaw6_ResidualReach.j2 k x16 x18 x20 x22 x24 false x221000 x221001 x221002 x221003)) else (none)) else (none)) else (some true)
def racewaylaw6_ResidualReach.j2 : Nat → Int → List Int → List Bool → List Bool → Int → Bool → Int → Int → Int → List (S49) → Option (Bool)
 | 0, _, _, _, _, _, _, _, _, _, _ => none
 | k + 1, x16, x18, x20, x22, x24, x127, x221000, x221001, x221002, x221003 => if x127 = true then (some false) else ((residual_From.f k x221000 x221001 x221002 x221003 x24).bind fun t242 => (racewaylaw6_ResidualReach.l1 k x16 x18 x20 x22 x24 (x24 == x221001) t242 0 x221000 x221001 x221002 x221003))
def racewaylaw6_ResidualReach.l1 : Nat → Int → List Int → List Bool → List Bool → Int → Bool → List Int → Int → Int → Int → Int → List (S49) → Option (Bool)
 | 0, _, _, _, _, _, _, _, _, _, _, _, _ => none
 | k + 1, x16, x18, x20, x22, x24, x25, x26, x27, x221000, x221001, x221002, x221003 => if x27 < (x26.length : Int) then (if 0 ≤ x27 then ((residual_Ends.f k x221000 x221001 x221002 x221003 (rd x26 x27)).bind fun bt246 => (if 0 ≤ x24 then (if x24 < (x20.length : Int) then (if rdOf false x20 x24 = true then (if 0 ≤ (rd x26 x27) then (if (rd x26 x27) < (x18.length : Int) then (if (rd x18 (rd x26 x27)) ≥ x16 then (if 0 ≤ bt246.2 then (if bt246.2 < (x20.length : Int) then (if rdOf false x20 bt246.2 = true then (if x25 = true then (racewaylaw6_ResidualReach.l1 k x16 x18 x20 x22 x24 true x26 (wrap64 (x27 + 1)) x221000 x221001 x221002 x221003) else (if 0 ≤ (Go.bits .xor .i64 (rd x26 x27) 1) then (if (Go.bits .xor .i64 (rd x26 x27) 1) < (x18.length : Int) then (racewaylaw6_ResidualReach.l1 k x16 x18 x20 x22 x24 (decide ((rd x18 (Go.bits .xor .i64 (rd x26 x27) 1)) ≥ x16)) x26 (wrap64 (x27 + 1)) x221000 x221001 x221002 x221003) else (none)) else (none))) else (some false)) else (none)) else (none)) else (if x25 = true then (racewaylaw6_ResidualReach.l1 k x16 x18 x20 x22 x24 true x26 (wrap64 (x27 + 1)) x221000 x221001 x221002 x221003) else (if 0 ≤ bt246.2 then (if bt246.2 < (x20.length : Int) then (if rdOf false x20 bt246.2 = true then (if 0 ≤ (Go.bits .xor .i64 (rd x26 x27) 1) then (if (Go.bits .xor .i64 (rd x26 x27) 1) < (x18.length : Int) then (racewaylaw6_ResidualReach.l1 k x16 x18 x20 x22 x24 (decide ((rd x18 (Go.bits .xor .i64 (rd x26 x27) 1)) ≥ x16)) x26 (wrap64 (x27 + 1)) x221000 x221001 x221002 x221003) else (none)) else (none)) else (racewaylaw6_ResidualReach.l1 k x16 x18 x20 x22 x24 false x26 (wrap64 (x27 + 1)) x221000 x221001 x221002 x221003)) else (none)) else (none)))) else (none)) else (none)) else (if x25 = true then (racewaylaw6_ResidualReach.l1 k x16 x18 x20 x22 x24 true x26 (wrap64 (x27 + 1)) x221000 x221001 x221002 x221003) else (if 0 ≤ bt246.2 then (if bt246.2 < (x20.length : Int) then (if rdOf false x20 bt246.2 = true then (if 0 ≤ (Go.bits .xor .i64 (rd x26 x27) 1) then (if (Go.bits .xor .i64 (rd x26 x27) 1) < (x18.length : Int) then (racewaylaw6_ResidualReach.l1 k x16 x18 x20 x22 x24 (decide ((rd x18 (Go.bits .xor .i64 (rd x26 x27) 1)) ≥ x16)) x26 (wrap64 (x27 + 1)) x221000 x221001 x221002 x221003) else (none)) else (none)) else (racewaylaw6_ResidualReach.l1 k x16 x18 x20 x22 x24 false x26 (wrap64 (x27 + 1)) x221000 x221001 x221002 x221003)) else (none)) else (none)))) else (none)) else (none))) else (none)) else (if 0 ≤ x24 then (if x24 < (x20.length : Int) then (if rdOf false x20 x24 = true then (if x25 = true then (racewaylaw6_ResidualReach.l0 k x16 x18 x20 x22 (wrap64 (x24 + 1)) x221000 x221001 x221002 x221003) else (some false)) else (racewaylaw6_ResidualReach.l0 k x16 x18 x20 x22 (wrap64 (x24 + 1)) x221000 x221001 x221002 x221003)) else (none)) else (none))
end
def racewaylaw6_ResidualReach.f (k : Nat) (a0 : Int) (a1 : Int) (l2 : List (S68)) (l3 : List Int) (a4 : Int) (a5 : Int) : Option (Bool) := (racewaylaw6_shown.f k).bind fun t213 => (if t213 = true then ((racewaylaw6_made.f k a0 a1 l2).bind fun bt214 => ((racewaylaw6_routed.f k bt214.1 bt214.2.1 bt214.2.2.1 bt214.2.2.2 l3).bind fun t221 => ((racewaylaw6_pick.f a4 30).bind fun t224 => ((racewaylaw6_pick.f a5 30).bind fun t225 => ((residual_Room.f k bt214.1 bt214.2.1 bt214.2.2.1 bt214.2.2.2 t221).bind fun bt226 => ((residual_Reach.f k bt214.1 bt214.2.1 bt214.2.2.1 bt214.2.2.2 t221 (wrap64 (1 + (mn t224 t225)))).bind fun bt230 => ((residual_Reach.f k bt214.1 bt214.2.1 bt214.2.2.1 bt214.2.2.2 t221 (wrap64 (1 + (mx t224 t225)))).bind fun bt234 => (if bt226.2 = 0 then (if bt230.2 = 0 then (if bt234.2 = 0 then (if (bt230.1.length : Int) = (wrap64 (bt214.1 + 1)) then (if (bt234.1.length : Int) = (wrap64 (bt214.1 + 1)) then (if 0 < (bt230.1.length : Int) then (if rdOf false bt230.1 0 = true then (racewaylaw6_ResidualReach.j0 k (wrap64 (1 + (mn t224 t225))) bt226.1 bt230.1 bt234.1 true bt214.1 bt214.2.1 bt214.2.2.1 bt214.2.2.2) else (if 0 ≤ bt214.2.1 then (if bt214.2.1 < (bt230.1.length : Int) then (racewaylaw6_ResidualReach.j0 k (wrap64 (1 + (mn t224 t225))) bt226.1 bt230.1 bt234.1 (!(rdOf false bt230.1 bt214.2.1)) bt214.1 bt214.2.1 bt214.2.2.1 bt214.2.2.2) else (none)) else (none))) else (none)) else (racewaylaw6_ResidualReach.j0 k (wrap64 (1 + (mn t224 t225))) bt226.1 bt230.1 bt234.1 true bt214.1 bt214.2.1 bt214.2.2.1 bt214.2.2.2)) else (racewaylaw6_ResidualReach.j0 k (wrap64 (1 + (mn t224 t225))) bt226.1 bt230.1 bt234.1 true bt214.1 bt214.2.1 bt214.2.2.1 bt214.2.2.2)) else (racewaylaw6_ResidualReach.j0 k (wrap64 (1 + (mn t224 t225))) bt226.1 bt230.1 bt234.1 true bt214.1 bt214.2.1 bt214.2.2.1 bt214.2.2.2)) else (racewaylaw6_ResidualReach.j0 k (wrap64 (1 + (mn t224 t225))) bt226.1 bt230.1 bt234.1 true bt214.1 bt214.2.1 bt214.2.2.1 bt214.2.2.2)) else (racewaylaw6_ResidualReach.j0 k (wrap64 (1 + (mn t224 t225))) bt226.1 bt230.1 bt234.1 true bt214.1 bt214.2.1 bt214.2.2.1 bt214.2.2.2))))))))) else (some false))
theorem racewaylaw6_ResidualReach.mono_l : ∀ k, (∀ y0 y1 y2 y3 y4 y5 y6 y7 y8, LeO (racewaylaw6_ResidualReach.j0 k y0 y1 y2 y3 y4 y5 y6 y7 y8) (racewaylaw6_ResidualReach.j0 (k + 1) y0 y1 y2 y3 y4 y5 y6 y7 y8)) ∧ (∀ y0 y1 y2 y3 y4 y5 y6 y7 y8, LeO (racewaylaw6_ResidualReach.l0 k y0 y1 y2 y3 y4 y5 y6 y7 y8) (racewaylaw6_ResidualReach.l0 (k + 1) y0 y1 y2 y3 y4 y5 y6 y7 y8)) ∧ (∀ y0 y1 y2 y3 y4 y5 y6 y7 y8 y9, LeO (racewaylaw6_ResidualReach.j2 k y0 y1 y2 y3 y4 y5 y6 y7 y8 y9) (racewaylaw6_ResidualReach.j2 (k + 1) y0 y1 y2 y3 y4 y5 y6 y7 y8 y9)) ∧ (∀ y0 y1 y2 y3 y4 y5 y6 y7 y8 y9 y10 y11, LeO (racewaylaw6_ResidualReach.l1 k y0 y1 y2 y3 y4 y5 y6 y7 y8 y9 y10 y11) (racewaylaw6_ResidualReach.l1 (k + 1) y0 y1 y2 y3 y4 y5 y6 y7 y8 y9 y10 y11))
 | 0 => ⟨fun _ _ _ _ _ _ _ _ _ r h => by simp [racewaylaw6_ResidualReach.j0] at h, fun _ _ _ _ _ _ _ _ _ r h => by simp [racewaylaw6_ResidualReach.l0] at h, fun _ _ _ _ _ _ _ _ _ _ r h => by simp [racewaylaw6_ResidualReach.j2] at h, fun _ _ _ _ _ _ _ _ _ _ _ _ r h => by simp [racewaylaw6_ResidualReach.l1] at h⟩
 | k + 1 => by
  obtain ⟨ih0, ih1, ih2, ih3⟩ := racewaylaw6_ResidualReach.mono_l k
  refine ⟨?_, ?_, ?_, ?_⟩
  ·intro y0 y1 y2 y3 y4 y5 y6 y7 y8
   unfold racewaylaw6_ResidualReach.j0
   repeat' first
   | (with_reducible exact ih0 _ _ _ _ _ _ _ _ _)
   | (with_reducible exact ih1 _ _ _ _ _ _ _ _ _)
   | (with_reducible exact ih2 _ _ _ _ _ _ _ _ _ _)
   | (with_reducible exact ih3 _ _ _ _ _ _ _ _ _ _ _ _)
   | (with_reducible exact racewaylaw6_made.mono _ _ _ _)
   | (with_reducible exact racewaylaw6_routed.mono _ _ _ _ _ _)
   | (with_reducible exact racewaylaw6_shown.mono _)
   | (with_reducible exact residual_Ends.mono _ _ _ _ _ _)
   | (with_reducible exact residual_From.mono _ _ _ _ _ _)
   | (with_reducible exact residual_Reach.mono _ _ _ _ _ _ _)
   | (with_reducible exact residual_Room.mono _ _ _ _ _ _)
   | (with_reducible exact LeO.refl _)
   | (with_reducible exact LeO.none _)
   | (with_reducible refine LeO.ite ?_ ?_)
   | (with_reducible refine LeO.bind ?_ (fun _ => ?_))
   | exact ih0 _ _ _ _ _ _ _ _ _
   | exact ih1 _ _ _ _ _ _ _ _ _
   | exact ih2 _ _ _ _ _ _ _ _ _ _
   | exact ih3 _ _ _ _ _ _ _ _ _ _ _ _
   | exact racewaylaw6_made.mono _ _ _ _
   | exact racewaylaw6_routed.mono _ _ _ _ _ _
   | exact racewaylaw6_shown.mono _
   | exact residual_Ends.mono _ _ _ _ _ _
   | exact residual_From.mono _ _ _ _ _ _
   | exact residual_Reach.mono _ _ _ _ _ _ _
   | exact residual_Room.mono _ _ _ _ _ _
   | exact LeO.none _
   | refine LeO.ite ?_ ?_
   | refine LeO.bind ?_ (fun _ => ?_)
  ·intro y0 y1 y2 y3 y4 y5 y6 y7 y8
   unfold racewaylaw6_ResidualReach.l0
   repeat' first
   | (with_reducible exact ih0 _ _ _ _ _ _ _ _ _)
   | (with_reducible exact ih1 _ _ _ _ _ _ _ _ _)
   | (with_reducible exact ih2 _ _ _ _ _ _ _ _ _ _)
   | (with_reducible exact ih3 _ _ _ _ _ _ _ _ _ _ _ _)
   | (with_reducible exact racewaylaw6_made.mono _ _ _ _)
   | (with_reducible exact racewaylaw6_routed.mono _ _ _ _ _ _)
   | (with_reducible exact racewaylaw6_shown.mono _)
   | (with_reducible exact residual_Ends.mono _ _ _ _ _ _)
   | (with_reducible exact residual_From.mono _ _ _ _ _ _)
   | (with_reducible exact residual_Reach.mono _ _ _ _ _ _ _)
   | (with_reducible exact residual_Room.mono _ _ _ _ _ _)
   | (with_reducible exact LeO.refl _)
   | (with_reducible exact LeO.none _)
   | (with_reducible refine LeO.ite ?_ ?_)
   | (with_reducible refine LeO.bind ?_ (fun _ => ?_))
   | exact ih0 _ _ _ _ _ _ _ _ _
   | exact ih1 _ _ _ _ _ _ _ _ _
   | exact ih2 _ _ _ _ _ _ _ _ _ _
   | exact ih3 _ _ _ _ _ _ _ _ _ _ _ _
   | exact racewaylaw6_made.mono _ _ _ _
   | exact racewaylaw6_routed.mono _ _ _ _ _ _
   | exact racewaylaw6_shown.mono _
   | exact residual_Ends.mono _ _ _ _ _ _
   | exact residual_From.mono _ _ _ _ _ _
   | exact residual_Reach.mono _ _ _ _ _ _ _
   | exact residual_Room.mono _ _ _ _ _ _
   | exact LeO.none _
   | refine LeO.ite ?_ ?_
   | refine LeO.bind ?_ (fun _ => ?_)
  ·intro y0 y1 y2 y3 y4 y5 y6 y7 y8 y9
   unfold racewaylaw6_ResidualReach.j2
   repeat' first
   | (with_reducible exact ih0 _ _ _ _ _ _ _ _ _)
   | (with_reducible exact ih1 _ _ _ _ _ _ _ _ _)
   | (with_reducible exact ih2 _ _ _ _ _ _ _ _ _ _)
   | (with_reducible exact ih3 _ _ _ _ _ _ _ _ _ _ _ _)
   | (with_reducible exact racewaylaw6_made.mono _ _ _ _)
   | (with_reducible exact racewaylaw6_routed.mono _ _ _ _ _ _)
   | (with_reducible exact racewaylaw6_shown.mono _)
   | (with_reducible exact residual_Ends.mono _ _ _ _ _ _)
   | (with_reducible exact residual_From.mono _ _ _ _ _ _)
   | (with_reducible exact residual_Reach.mono _ _ _ _ _ _ _)
   | (with_reducible exact residual_Room.mono _ _ _ _ _ _)
   | (with_reducible exact LeO.refl _)
   | (with_reducible exact LeO.none _)
   | (with_reducible refine LeO.ite ?_ ?_)
   | (with_reducible refine LeO.bind ?_ (fun _ => ?_))
   | exact ih0 _ _ _ _ _ _ _ _ _
   | exact ih1 _ _ _ _ _ _ _ _ _
   | exact ih2 _ _ _ _ _ _ _ _ _ _
   | exact ih3 _ _ _ _ _ _ _ _ _ _ _ _
   | exact racewaylaw6_made.mono _ _ _ _
   | exact racewaylaw6_routed.mono _ _ _ _ _ _
   | exact racewaylaw6_shown.mono _
   | exact residual_Ends.mono _ _ _ _ _ _
   | exact residual_From.mono _ _ _ _ _ _
   | exact residual_Reach.mono _ _ _ _ _ _ _
   | exact residual_Room.mono _ _ _ _ _ _
   | exact LeO.none _
   | refine LeO.ite ?_ ?_
   | refine LeO.bind ?_ (fun _ => ?_)
  ·intro y0 y1 y2 y3 y4 y5 y6 y7 y8 y9 y10 y11
   unfold racewaylaw6_ResidualReach.l1
   repeat' first
   | (with_reducible exact ih0 _ _ _ _ _ _ _ _ _)
   | (with_reducible exact ih1 _ _ _ _ _ _ _ _ _)
   | (with_reducible exact ih2 _ _ _ _ _ _ _ _ _ _)
   | (with_reducible exact ih3 _ _ _ _ _ _ _ _ _ _ _ _)
   | (with_reducible exact racewaylaw6_made.mono _ _ _ _)
   | (with_reducible exact racewaylaw6_routed.mono _ _ _ _ _ _)
   | (with_reducible exact racewaylaw6_shown.mono _)
   | (with_reducible exact residual_Ends.mono _ _ _ _ _ _)
   | (with_reducible exact residual_From.mono _ _ _ _ _ _)
   | (with_reducible exact residual_Reach.mono _ _ _ _ _ _ _)
   | (with_reducible exact residual_Room.mono _ _ _ _ _ _)
   | (with_reducible exact LeO.refl _)
   | (with_reducible exact LeO.none _)
   | (with_reducible refine LeO.ite ?_ ?_)
   | (with_reducible refine LeO.bind ?_ (fun _ => ?_))
   | exact ih0 _ _ _ _ _ _ _ _ _
   | exact ih1 _ _ _ _ _ _ _ _ _
   | exact ih2 _ _ _ _ _ _ _ _ _ _
   | exact ih3 _ _ _ _ _ _ _ _ _ _ _ _
   | exact racewaylaw6_made.mono _ _ _ _
   | exact racewaylaw6_routed.mono _ _ _ _ _ _
   | exact racewaylaw6_shown.mono _
   | exact residual_Ends.mono _ _ _ _ _ _
   | exact residual_From.mono _ _ _ _ _ _
   | exact residual_Reach.mono _ _ _ _ _ _ _
   | exact residual_Room.mono _ _ _ _ _ _
   | exact LeO.none _
   | refine LeO.ite ?_ ?_
   | refine LeO.bind ?_ (fun _ => ?_)
theorem racewaylaw6_ResidualReach.mono : ∀ a0 a1 a2 a3 a4 a5 k, LeO (racewaylaw6_ResidualReach.f k a0 a1 a2 a3 a4 a5) (racewaylaw6_ResidualReach.f (k + 1) a0 a1 a2 a3 a4 a5) := by
 intro a0 a1 a2 a3 a4 a5 k
 obtain ⟨ih0, ih1, ih2, ih3⟩ := racewaylaw6_ResidualReach.mono_l k
 unfold racewaylaw6_ResidualReach.f
 repeat' first
   | (with_reducible exact ih0 _ _ _ _ _ _ _ _ _)
   | (with_reducible exact ih1 _ _ _ _ _ _ _ _ _)
   | (with_reducible exact ih2 _ _ _ _ _ _ _ _ _ _)
   | (with_reducible exact ih3 _ _ _ _ _ _ _ _ _ _ _ _)
   | (with_reducible exact racewaylaw6_made.mono _ _ _ _)
   | (with_reducible exact racewaylaw6_routed.mono _ _ _ _ _ _)
   | (with_reducible exact racewaylaw6_shown.mono _)
   | (with_reducible exact residual_Ends.mono _ _ _ _ _ _)
   | (with_reducible exact residual_From.mono _ _ _ _ _ _)
   | (with_reducible exact residual_Reach.mono _ _ _ _ _ _ _)
   | (with_reducible exact residual_Room.mono _ _ _ _ _ _)
   | (with_reducible exact LeO.refl _)
   | (with_reducible exact LeO.none _)
   | (with_reducible refine LeO.ite ?_ ?_)
   | (with_reducible refine LeO.bind ?_ (fun _ => ?_))
   | exact ih0 _ _ _ _ _ _ _ _ _
   | exact ih1 _ _ _ _ _ _ _ _ _
   | exact ih2 _ _ _ _ _ _ _ _ _ _
   | exact ih3 _ _ _ _ _ _ _ _ _ _ _ _
   | exact racewaylaw6_made.mono _ _ _ _
   | exact racewaylaw6_routed.mono _ _ _ _ _ _
   | exact racewaylaw6_shown.mono _
   | exact residual_Ends.mono _ _ _ _ _ _
   | exact residual_From.mono _ _ _ _ _ _
   | exact residual_Reach.mono _ _ _ _ _ _ _
   | exact residual_Room.mono _ _ _ _ _ _
   | exact LeO.none _
   | refine LeO.ite ?_ ?_
   | refine LeO.bind ?_ (fun _ => ?_)
def racewaylaw6_ResidualReach.T23 : Bool × List (List Nat × List Nat) := (true, [([], []), ([], []), ([], []), ([1, 2], [1, 2]), ([3], [3]), ([0, 4], [0, 4]), ([5], [5]), ([6], [6]), ([6], [6]), ([7, 5, 0, 1, 2, 3, 4, 5, 6, 7], [7]), ([8, 9, 0, 1, 2, 3, 4, 5, 6, 7, 8, 9], [8])])
def racewaylaw6_ResidualReach.B23 : List Nat := [0, 0, 0, 6, 14, 31, 63, 127, 127, 255, 1023]
theorem racewaylaw6_ResidualReach.tab23 : rtab .any (opsOf Try.f3 23) = racewaylaw6_ResidualReach.T23 := by kernel_rfl
theorem racewaylaw6_ResidualReach.bits23 : waitsOk racewaylaw6_ResidualReach.T23.2 racewaylaw6_ResidualReach.B23 = true := by kernel_rfl
set_option maxHeartbeats 8000000 in
set_option maxRecDepth 100000 in
theorem racewaylaw6_ResidualReach.calls (k : Nat) (a0 : Int) (a1 : Int) (A2 : Option Addr) (c2 : Nat) (l2 : List (S68)) (A3 : Option Addr) (c3 : Nat) (l3 : List Int) (a4 : Int) (a5 : Int) (r : Bool) (w : World) (hr2 : Kd.C k68 w A2 l2.length l2) (hc2 : l2.length ≤ c2) (hr3 : Kd.C (Kd.int .i64) w A3 l3.length l3) (hc3 : l3.length ≤ c3) (h : racewaylaw6_ResidualReach.f k a0 a1 l2 l3 a4 a5 = some r) (hrT_ : Aside0 (r = true)) :
  Calls Try.prog 3 #[.int .i64 a0, .int .i64 a1, .slice A2 l2.length c2, .slice A3 l3.length c3, .int .i64 a4, .int .i64 a5] w fun e w' => e = .returned (.bool r) ∧ Below w.heap.size w w' := by
 have hu27 := Try.underlying27
 have HR2 := Aside0.mk hr2
 have HC2 := Aside0.mk hc2
 clear hr2 hc2
 have HR3 := Aside0.mk hr3
 have HC3 := Aside0.mk hc3
 clear hr3 hc3
 have HB := Aside0.mk (Below.refl w.heap.size w)
 have H : ((racewaylaw6_shown.f k).bind fun t213 => (if t213 = true then ((racewaylaw6_made.f k a0 a1 l2).bind fun bt214 => ((racewaylaw6_routed.f k bt214.1 bt214.2.1 bt214.2.2.1 bt214.2.2.2 l3).bind fun t221 => ((racewaylaw6_pick.f a4 30).bind fun t224 => ((racewaylaw6_pick.f a5 30).bind fun t225 => ((residual_Room.f k bt214.1 bt214.2.1 bt214.2.2.1 bt214.2.2.2 t221).bind fun bt226 => ((residual_Reach.f k bt214.1 bt214.2.1 bt214.2.2.1 bt214.2.2.2 t221 (wrap64 (1 + (mn t224 t225)))).bind fun bt230 => ((residual_Reach.f k bt214.1 bt214.2.1 bt214.2.2.1 bt214.2.2.2 t221 (wrap64 (1 + (mx t224 t225)))).bind fun bt234 => (if bt226.2 = 0 then (if bt230.2 = 0 then (if bt234.2 = 0 then (if (bt230.1.length : Int) = (wrap64 (bt214.1 + 1)) then (if (bt234.1.length : Int) = (wrap64 (bt214.1 + 1)) then (if 0 < (bt230.1.length : Int) then (if rdOf false bt230.1 0 = true then (racewaylaw6_ResidualReach.j0 k (wrap64 (1 + (mn t224 t225))) bt226.1 bt230.1 bt234.1 true bt214.1 bt214.2.1 bt214.2.2.1 bt214.2.2.2) else (if 0 ≤ bt214.2.1 then (if bt214.2.1 < (bt230.1.length : Int) then (racewaylaw6_ResidualReach.j0 k (wrap64 (1 + (mn t224 t225))) bt226.1 bt230.1 bt234.1 (!(rdOf false bt230.1 bt214.2.1)) bt214.1 bt214.2.1 bt214.2.2.1 bt214.2.2.2) else (none)) else (none))) else (none)) else (racewaylaw6_ResidualReach.j0 k (wrap64 (1 + (mn t224 t225))) bt226.1 bt230.1 bt234.1 true bt214.1 bt214.2.1 bt214.2.2.1 bt214.2.2.2)) else (racewaylaw6_ResidualReach.j0 k (wrap64 (1 + (mn t224 t225))) bt226.1 bt230.1 bt234.1 true bt214.1 bt214.2.1 bt214.2.2.1 bt214.2.2.2)) else (racewaylaw6_ResidualReach.j0 k (wrap64 (1 + (mn t224 t225))) bt226.1 bt230.1 bt234.1 true bt214.1 bt214.2.1 bt214.2.2.1 bt214.2.2.2)) else (racewaylaw6_ResidualReach.j0 k (wrap64 (1 + (mn t224 t225))) bt226.1 bt230.1 bt234.1 true bt214.1 bt214.2.1 bt214.2.2.1 bt214.2.2.2)) else (racewaylaw6_ResidualReach.j0 k (wrap64 (1 + (mn t224 t225))) bt226.1 bt230.1 bt234.1 true bt214.1 bt214.2.1 bt214.2.2.1 bt214.2.2.2))))))))) else (some false))) = some r := h
 clear h
 replace H := Option.bind_eq_some_iff.mp H
 obtain ⟨t213, A70, H⟩ := H
 replace H : (if t213 = true then ((racewaylaw6_made.f k a0 a1 l2).bind fun bt214 => ((racewaylaw6_routed.f k bt214.1 bt214.2.1 bt214.2.2.1 bt214.2.2.2 l3).bind fun t221 => ((racewaylaw6_pick.f a4 30).bind fun t224 => ((racewaylaw6_pick.f a5 30).bind fun t225 => ((residual_Room.f k bt214.1 bt214.2.1 bt214.2.2.1 bt214.2.2.2 t221).bind fun bt226 => ((residual_Reach.f k bt214.1 bt214.2.1 bt214.2.2.1 bt214.2.2.2 t221 (wrap64 (1 + (mn t224 t225)))).bind fun bt230 => ((residual_Reach.f k bt214.1 bt214.2.1 bt214.2.2.1 bt214.2.2.2 t221 (wrap64 (1 + (mx t224 t225)))).bind fun bt234 => (if bt226.2 = 0 then (if bt230.2 = 0 then (if bt234.2 = 0 then (if (bt230.1.length : Int) = (wrap64 (bt214.1 + 1)) then (if (bt234.1.length : Int) = (wrap64 (bt214.1 + 1)) then (if 0 < (bt230.1.length : Int) then (if rdOf false bt230.1 0 = true then (racewaylaw6_ResidualReach.j0 k (wrap64 (1 + (mn t224 t225))) bt226.1 bt230.1 bt234.1 true bt214.1 bt214.2.1 bt214.2.2.1 bt214.2.2.2) else (if 0 ≤ bt214.2.1 then (if bt214.2.1 < (bt230.1.length : Int) then (racewaylaw6_ResidualReach.j0 k (wrap64 (1 + (mn t224 t225))) bt226.1 bt230.1 bt234.1 (!(rdOf false bt230.1 bt214.2.1)) bt214.1 bt214.2.1 bt214.2.2.1 bt214.2.2.2) else (none)) else (none))) else (none)) else (racewaylaw6_ResidualReach.j0 k (wrap64 (1 + (mn t224 t225))) bt226.1 bt230.1 bt234.1 true bt214.1 bt214.2.1 bt214.2.2.1 bt214.2.2.2)) else (racewaylaw6_ResidualReach.j0 k (wrap64 (1 + (mn t224 t225))) bt226.1 bt230.1 bt234.1 true bt214.1 bt214.2.1 bt214.2.2.1 bt214.2.2.2)) else (racewaylaw6_ResidualReach.j0 k (wrap64 (1 + (mn t224 t225))) bt226.1 bt230.1 bt234.1 true bt214.1 bt214.2.1 bt214.2.2.1 bt214.2.2.2)) else (racewaylaw6_ResidualReach.j0 k (wrap64 (1 + (mn t224 t225))) bt226.1 bt230.1 bt234.1 true bt214.1 bt214.2.1 bt214.2.2.1 bt214.2.2.2)) else (racewaylaw6_ResidualReach.j0 k (wrap64 (1 + (mn t224 t225))) bt226.1 bt230.1 bt234.1 true bt214.1 bt214.2.1 bt214.2.2.1 bt214.2.2.2))))))))) else (some false)) = some r := H
 have A7 := Aside0.mk A70
 clear A70
 by_cases c8 : t213 = true
 ·subst c8
  have H1 : ((racewaylaw6_made.f k a0 a1 l2).bind fun bt214 => ((racewaylaw6_routed.f k bt214.1 bt214.2.1 bt214.2.2.1 bt214.2.2.2 l3).bind fun t221 => ((racewaylaw6_pick.f a4 30).bind fun t224 => ((racewaylaw6_pick.f a5 30).bind fun t225 => ((residual_Room.f k bt214.1 bt214.2.1 bt214.2.2.1 bt214.2.2.2 t221).bind fun bt226 => ((residual_Reach.f k bt214.1 bt214.2.1 bt214.2.2.1 bt214.2.2.2 t221 (wrap64 (1 + (mn t224 t225)))).bind fun bt230 => ((residual_Reach.f k bt214.1 bt214.2.1 bt214.2.2.1 bt214.2.2.2 t221 (wrap64 (1 + (mx t224 t225)))).bind fun bt234 => (if bt226.2 = 0 then (if bt230.2 = 0 then (if bt234.2 = 0 then (if (bt230.1.length : Int) = (wrap64 (bt214.1 + 1)) then (if (bt234.1.length : Int) = (wrap64 (bt214.1 + 1)) then (if 0 < (bt230.1.length : Int) then (if rdOf false bt230.1 0 = true then (racewaylaw6_ResidualReach.j0 k (wrap64 (1 + (mn t224 t225))) bt226.1 bt230.1 bt234.1 true bt214.1 bt214.2.1 bt214.2.2.1 bt214.2.2.2) else (if 0 ≤ bt214.2.1 then (if bt214.2.1 < (bt230.1.length : Int) then (racewaylaw6_ResidualReach.j0 k (wrap64 (1 + (mn t224 t225))) bt226.1 bt230.1 bt234.1 (!(rdOf false bt230.1 bt214.2.1)) bt214.1 bt214.2.1 bt214.2.2.1 bt214.2.2.2) else (none)) else (none))) else (none)) else (racewaylaw6_ResidualReach.j0 k (wrap64 (1 + (mn t224 t225))) bt226.1 bt230.1 bt234.1 true bt214.1 bt214.2.1 bt214.2.2.1 bt214.2.2.2)) else (racewaylaw6_ResidualReach.j0 k (wrap64 (1 + (mn t224 t225))) bt226.1 bt230.1 bt234.1 true bt214.1 bt214.2.1 bt214.2.2.1 bt214.2.2.2)) else (racewaylaw6_ResidualReach.j0 k (wrap64 (1 + (mn t224 t225))) bt226.1 bt230.1 bt234.1 true bt214.1 bt214.2.1 bt214.2.2.1 bt214.2.2.2)) else (racewaylaw6_ResidualReach.j0 k (wrap64 (1 + (mn t224 t225))) bt226.1 bt230.1 bt234.1 true bt214.1 bt214.2.1 bt214.2.2.1 bt214.2.2.2)) else (racewaylaw6_ResidualReach.j0 k (wrap64 (1 + (mn t224 t225))) bt226.1 bt230.1 bt234.1 true bt214.1 bt214.2.1 bt214.2.2.1 bt214.2.2.2))))))))) = some r := by rw [if_pos rfl] at H; exact H
  clear H
  have H := H1
  clear H1
  replace H := Option.bind_eq_some_iff.mp H
  obtain ⟨⟨t214, t215, t216, t217⟩, A90, H⟩ := H
  replace H : ((racewaylaw6_routed.f k t214 t215 t216 t217 l3).bind fun t221 => ((racewaylaw6_pick.f a4 30).bind fun t224 => ((racewaylaw6_pick.f a5 30).bind fun t225 => ((residual_Room.f k t214 t215 t216 t217 t221).bind fun bt226 => ((residual_Reach.f k t214 t215 t216 t217 t221 (wrap64 (1 + (mn t224 t225)))).bind fun bt230 => ((residual_Reach.f k t214 t215 t216 t217 t221 (wrap64 (1 + (mx t224 t225)))).bind fun bt234 => (if bt226.2 = 0 then (if bt230.2 = 0 then (if bt234.2 = 0 then (if (bt230.1.length : Int) = (wrap64 (t214 + 1)) then (if (bt234.1.length : Int) = (wrap64 (t214 + 1)) then (if 0 < (bt230.1.length : Int) then (if rdOf false bt230.1 0 = true then (racewaylaw6_ResidualReach.j0 k (wrap64 (1 + (mn t224 t225))) bt226.1 bt230.1 bt234.1 true t214 t215 t216 t217) else (if 0 ≤ t215 then (if t215 < (bt230.1.length : Int) then (racewaylaw6_ResidualReach.j0 k (wrap64 (1 + (mn t224 t225))) bt226.1 bt230.1 bt234.1 (!(rdOf false bt230.1 t215)) t214 t215 t216 t217) else (none)) else (none))) else (none)) else (racewaylaw6_ResidualReach.j0 k (wrap64 (1 + (mn t224 t225))) bt226.1 bt230.1 bt234.1 true t214 t215 t216 t217)) else (racewaylaw6_ResidualReach.j0 k (wrap64 (1 + (mn t224 t225))) bt226.1 bt230.1 bt234.1 true t214 t215 t216 t217)) else (racewaylaw6_ResidualReach.j0 k (wrap64 (1 + (mn t224 t225))) bt226.1 bt230.1 bt234.1 true t214 t215 t216 t217)) else (racewaylaw6_ResidualReach.j0 k (wrap64 (1 + (mn t224 t225))) bt226.1 bt230.1 bt234.1 true t214 t215 t216 t217)) else (racewaylaw6_ResidualReach.j0 k (wrap64 (1 + (mn t224 t225))) bt226.1 bt230.1 bt234.1 true t214 t215 t216 t217)))))))) = some r := H
  have A9 := Aside0.mk A90
  clear A90
  replace H := Option.bind_eq_some_iff.mp H
  obtain ⟨t221, A100, H⟩ := H
  replace H : ((racewaylaw6_pick.f a4 30).bind fun t224 => ((racewaylaw6_pick.f a5 30).bind fun t225 => ((residual_Room.f k t214 t215 t216 t217 t221).bind fun bt226 => ((residual_Reach.f k t214 t215 t216 t217 t221 (wrap64 (1 + (mn t224 t225)))).bind fun bt230 => ((residual_Reach.f k t214 t215 t216 t217 t221 (wrap64 (1 + (mx t224 t225)))).bind fun bt234 => (if bt226.2 = 0 then (if bt230.2 = 0 then (if bt234.2 = 0 then (if (bt230.1.length : Int) = (wrap64 (t214 + 1)) then (if (bt234.1.length : Int) = (wrap64 (t214 + 1)) then (if 0 < (bt230.1.length : Int) then (if rdOf false bt230.1 0 = true then (racewaylaw6_ResidualReach.j0 k (wrap64 (1 + (mn t224 t225))) bt226.1 bt230.1 bt234.1 true t214 t215 t216 t217) else (if 0 ≤ t215 then (if t215 < (bt230.1.length : Int) then (racewaylaw6_ResidualReach.j0 k (wrap64 (1 + (mn t224 t225))) bt226.1 bt230.1 bt234.1 (!(rdOf false bt230.1 t215)) t214 t215 t216 t217) else (none)) else (none))) else (none)) else (racewaylaw6_ResidualReach.j0 k (wrap64 (1 + (mn t224 t225))) bt226.1 bt230.1 bt234.1 true t214 t215 t216 t217)) else (racewaylaw6_ResidualReach.j0 k (wrap64 (1 + (mn t224 t225))) bt226.1 bt230.1 bt234.1 true t214 t215 t216 t217)) else (racewaylaw6_ResidualReach.j0 k (wrap64 (1 + (mn t224 t225))) bt226.1 bt230.1 bt234.1 true t214 t215 t216 t217)) else (racewaylaw6_ResidualReach.j0 k (wrap64 (1 + (mn t224 t225))) bt226.1 bt230.1 bt234.1 true t214 t215 t216 t217)) else (racewaylaw6_ResidualReach.j0 k (wrap64 (1 + (mn t224 t225))) bt226.1 bt230.1 bt234.1 true t214 t215 t216 t217))))))) = some r := H
  have A10 := Aside0.mk A100
  clear A100
  replace H := Option.bind_eq_some_iff.mp H
  obtain ⟨t224, A110, H⟩ := H
  replace H : ((racewaylaw6_pick.f a5 30).bind fun t225 => ((residual_Room.f k t214 t215 t216 t217 t221).bind fun bt226 => ((residual_Reach.f k t214 t215 t216 t217 t221 (wrap64 (1 + (mn t224 t225)))).bind fun bt230 => ((residual_Reach.f k t214 t215 t216 t217 t221 (wrap64 (1 + (mx t224 t225)))).bind fun bt234 => (if bt226.2 = 0 then (if bt230.2 = 0 then (if bt234.2 = 0 then (if (bt230.1.length : Int) = (wrap64 (t214 + 1)) then (if (bt234.1.length : Int) = (wrap64 (t214 + 1)) then (if 0 < (bt230.1.length : Int) then (if rdOf false bt230.1 0 = true then (racewaylaw6_ResidualReach.j0 k (wrap64 (1 + (mn t224 t225))) bt226.1 bt230.1 bt234.1 true t214 t215 t216 t217) else (if 0 ≤ t215 then (if t215 < (bt230.1.length : Int) then (racewaylaw6_ResidualReach.j0 k (wrap64 (1 + (mn t224 t225))) bt226.1 bt230.1 bt234.1 (!(rdOf false bt230.1 t215)) t214 t215 t216 t217) else (none)) else (none))) else (none)) else (racewaylaw6_ResidualReach.j0 k (wrap64 (1 + (mn t224 t225))) bt226.1 bt230.1 bt234.1 true t214 t215 t216 t217)) else (racewaylaw6_ResidualReach.j0 k (wrap64 (1 + (mn t224 t225))) bt226.1 bt230.1 bt234.1 true t214 t215 t216 t217)) else (racewaylaw6_ResidualReach.j0 k (wrap64 (1 + (mn t224 t225))) bt226.1 bt230.1 bt234.1 true t214 t215 t216 t217)) else (racewaylaw6_ResidualReach.j0 k (wrap64 (1 + (mn t224 t225))) bt226.1 bt230.1 bt234.1 true t214 t215 t216 t217)) else (racewaylaw6_ResidualReach.j0 k (wrap64 (1 + (mn t224 t225))) bt226.1 bt230.1 bt234.1 true t214 t215 t216 t217)))))) = some r := H
  have A11 := Aside0.mk A110
  clear A110
  replace H := Option.bind_eq_some_iff.mp H
  obtain ⟨t225, A120, H⟩ := H
  replace H : ((residual_Room.f k t214 t215 t216 t217 t221).bind fun bt226 => ((residual_Reach.f k t214 t215 t216 t217 t221 (wrap64 (1 + (mn t224 t225)))).bind fun bt230 => ((residual_Reach.f k t214 t215 t216 t217 t221 (wrap64 (1 + (mx t224 t225)))).bind fun bt234 => (if bt226.2 = 0 then (if bt230.2 = 0 then (if bt234.2 = 0 then (if (bt230.1.length : Int) = (wrap64 (t214 + 1)) then (if (bt234.1.length : Int) = (wrap64 (t214 + 1)) then (if 0 < (bt230.1.length : Int) then (if rdOf false bt230.1 0 = true then (racewaylaw6_ResidualReach.j0 k (wrap64 (1 + (mn t224 t225))) bt226.1 bt230.1 bt234.1 true t214 t215 t216 t217) else (if 0 ≤ t215 then (if t215 < (bt230.1.length : Int) then (racewaylaw6_ResidualReach.j0 k (wrap64 (1 + (mn t224 t225))) bt226.1 bt230.1 bt234.1 (!(rdOf false bt230.1 t215)) t214 t215 t216 t217) else (none)) else (none))) else (none)) else (racewaylaw6_ResidualReach.j0 k (wrap64 (1 + (mn t224 t225))) bt226.1 bt230.1 bt234.1 true t214 t215 t216 t217)) else (racewaylaw6_ResidualReach.j0 k (wrap64 (1 + (mn t224 t225))) bt226.1 bt230.1 bt234.1 true t214 t215 t216 t217)) else (racewaylaw6_ResidualReach.j0 k (wrap64 (1 + (mn t224 t225))) bt226.1 bt230.1 bt234.1 true t214 t215 t216 t217)) else (racewaylaw6_ResidualReach.j0 k (wrap64 (1 + (mn t224 t225))) bt226.1 bt230.1 bt234.1 true t214 t215 t216 t217)) else (racewaylaw6_ResidualReach.j0 k (wrap64 (1 + (mn t224 t225))) bt226.1 bt230.1 bt234.1 true t214 t215 t216 t217))))) = some r := H
  have A12 := Aside0.mk A120
  clear A120
  obtain ⟨ji13, hji13⟩ : ∃ j_ : Int, (mn t224 t225) = j_ := ⟨_, rfl⟩
  replace H : ((residual_Room.f k t214 t215 t216 t217 t221).bind fun bt226 => ((residual_Reach.f k t214 t215 t216 t217 t221 (wrap64 (1 + (ji13)))).bind fun bt230 => ((residual_Reach.f k t214 t215 t216 t217 t221 (wrap64 (1 + (mx t224 t225)))).bind fun bt234 => (if bt226.2 = 0 then (if bt230.2 = 0 then (if bt234.2 = 0 then (if (bt230.1.length : Int) = (wrap64 (t214 + 1)) then (if (bt234.1.length : Int) = (wrap64 (t214 + 1)) then (if 0 < (bt230.1.length : Int) then (if rdOf false bt230.1 0 = true then (racewaylaw6_ResidualReach.j0 k (wrap64 (1 + (ji13))) bt226.1 bt230.1 bt234.1 true t214 t215 t216 t217) else (if 0 ≤ t215 then (if t215 < (bt230.1.length : Int) then (racewaylaw6_ResidualReach.j0 k (wrap64 (1 + (ji13))) bt226.1 bt230.1 bt234.1 (!(rdOf false bt230.1 t215)) t214 t215 t216 t217) else (none)) else (none))) else (none)) else (racewaylaw6_ResidualReach.j0 k (wrap64 (1 + (ji13))) bt226.1 bt230.1 bt234.1 true t214 t215 t216 t217)) else (racewaylaw6_ResidualReach.j0 k (wrap64 (1 + (ji13))) bt226.1 bt230.1 bt234.1 true t214 t215 t216 t217)) else (racewaylaw6_ResidualReach.j0 k (wrap64 (1 + (ji13))) bt226.1 bt230.1 bt234.1 true t214 t215 t216 t217)) else (racewaylaw6_ResidualReach.j0 k (wrap64 (1 + (ji13))) bt226.1 bt230.1 bt234.1 true t214 t215 t216 t217)) else (racewaylaw6_ResidualReach.j0 k (wrap64 (1 + (ji13))) bt226.1 bt230.1 bt234.1 true t214 t215 t216 t217))))) = some r := by first | (rw [hji13] at H; exact H) | (simp only [hji13] at H ⊢; exact H)
  (try rw [hji13] at A7)
  (try rw [hji13] at A9)
  (try rw [hji13] at A10)
  (try rw [hji13] at A11)
  (try rw [hji13] at A12)
  have hji13_ : (if t225 < t224 then t225 else t224) = ji13 := hji13
  obtain ⟨ji14, hji14⟩ : ∃ j_ : Int, (mx t224 t225) = j_ := ⟨_, rfl⟩
  replace H : ((residual_Room.f k t214 t215 t216 t217 t221).bind fun bt226 => ((residual_Reach.f k t214 t215 t216 t217 t221 (wrap64 (1 + (ji13)))).bind fun bt230 => ((residual_Reach.f k t214 t215 t216 t217 t221 (wrap64 (1 + (ji14)))).bind fun bt234 => (if bt226.2 = 0 then (if bt230.2 = 0 then (if bt234.2 = 0 then (if (bt230.1.length : Int) = (wrap64 (t214 + 1)) then (if (bt234.1.length : Int) = (wrap64 (t214 + 1)) then (if 0 < (bt230.1.length : Int) then (if rdOf false bt230.1 0 = true then (racewaylaw6_ResidualReach.j0 k (wrap64 (1 + (ji13))) bt226.1 bt230.1 bt234.1 true t214 t215 t216 t217) else (if 0 ≤ t215 then (if t215 < (bt230.1.length : Int) then (racewaylaw6_ResidualReach.j0 k (wrap64 (1 + (ji13))) bt226.1 bt230.1 bt234.1 (!(rdOf false bt230.1 t215)) t214 t215 t216 t217) else (none)) else (none))) else (none)) else (racewaylaw6_ResidualReach.j0 k (wrap64 (1 + (ji13))) bt226.1 bt230.1 bt234.1 true t214 t215 t216 t217)) else (racewaylaw6_ResidualReach.j0 k (wrap64 (1 + (ji13))) bt226.1 bt230.1 bt234.1 true t214 t215 t216 t217)) else (racewaylaw6_ResidualReach.j0 k (wrap64 (1 + (ji13))) bt226.1 bt230.1 bt234.1 true t214 t215 t216 t217)) else (racewaylaw6_ResidualReach.j0 k (wrap64 (1 + (ji13))) bt226.1 bt230.1 bt234.1 true t214 t215 t216 t217)) else (racewaylaw6_ResidualReach.j0 k (wrap64 (1 + (ji13))) bt226.1 bt230.1 bt234.1 true t214 t215 t216 t217))))) = some r := by first | (rw [hji14] at H; exact H) | (simp only [hji14] at H ⊢; exact H)
  (try rw [hji14] at A7)
  (try rw [hji14] at A9)
  (try rw [hji14] at A10)
  (try rw [hji14] at A11)
  (try rw [hji14] at A12)
  have hji14_ : (if t224 < t225 then t225 else t224) = ji14 := hji14
  replace H := Option.bind_eq_some_iff.mp H
  obtain ⟨⟨t226, t229⟩, A150, H⟩ := H
  replace H : ((residual_Reach.f k t214 t215 t216 t217 t221 (wrap64 (1 + (ji13)))).bind fun bt230 => ((residual_Reach.f k t214 t215 t216 t217 t221 (wrap64 (1 + (ji14)))).bind fun bt234 => (if t229 = 0 then (if bt230.2 = 0 then (if bt234.2 = 0 then (if (bt230.1.length : Int) = (wrap64 (t214 + 1)) then (if (bt234.1.length : Int) = (wrap64 (t214 + 1)) then (if 0 < (bt230.1.length : Int) then (if rdOf false bt230.1 0 = true then (racewaylaw6_ResidualReach.j0 k (wrap64 (1 + (ji13))) t226 bt230.1 bt234.1 true t214 t215 t216 t217) else (if 0 ≤ t215 then (if t215 < (bt230.1.length : Int) then (racewaylaw6_ResidualReach.j0 k (wrap64 (1 + (ji13))) t226 bt230.1 bt234.1 (!(rdOf false bt230.1 t215)) t214 t215 t216 t217) else (none)) else (none))) else (none)) else (racewaylaw6_ResidualReach.j0 k (wrap64 (1 + (ji13))) t226 bt230.1 bt234.1 true t214 t215 t216 t217)) else (racewaylaw6_ResidualReach.j0 k (wrap64 (1 + (ji13))) t226 bt230.1 bt234.1 true t214 t215 t216 t217)) else (racewaylaw6_ResidualReach.j0 k (wrap64 (1 + (ji13))) t226 bt230.1 bt234.1 true t214 t215 t216 t217)) else (racewaylaw6_ResidualReach.j0 k (wrap64 (1 + (ji13))) t226 bt230.1 bt234.1 true t214 t215 t216 t217)) else (racewaylaw6_ResidualReach.j0 k (wrap64 (1 + (ji13))) t226 bt230.1 bt234.1 true t214 t215 t216 t217)))) = some r := H
  have A15 := Aside0.mk A150
  clear A150
  replace H := Option.bind_eq_some_iff.mp H
  obtain ⟨⟨t230, t233⟩, A160, H⟩ := H
  replace H : ((residual_Reach.f k t214 t215 t216 t217 t221 (wrap64 (1 + (ji14)))).bind fun bt234 => (if t229 = 0 then (if t233 = 0 then (if bt234.2 = 0 then (if (t230.length : Int) = (wrap64 (t214 + 1)) then (if (bt234.1.length : Int) = (wrap64 (t214 + 1)) then (if 0 < (t230.length : Int) then (if rdOf false t230 0 = true then (racewaylaw6_ResidualReach.j0 k (wrap64 (1 + (ji13))) t226 t230 bt234.1 true t214 t215 t216 t217) else (if 0 ≤ t215 then (if t215 < (t230.length : Int) then (racewaylaw6_ResidualReach.j0 k (wrap64 (1 + (ji13))) t226 t230 bt234.1 (!(rdOf false t230 t215)) t214 t215 t216 t217) else (none)) else (none))) else (none)) else (racewaylaw6_ResidualReach.j0 k (wrap64 (1 + (ji13))) t226 t230 bt234.1 true t214 t215 t216 t217)) else (racewaylaw6_ResidualReach.j0 k (wrap64 (1 + (ji13))) t226 t230 bt234.1 true t214 t215 t216 t217)) else (racewaylaw6_ResidualReach.j0 k (wrap64 (1 + (ji13))) t226 t230 bt234.1 true t214 t215 t216 t217)) else (racewaylaw6_ResidualReach.j0 k (wrap64 (1 + (ji13))) t226 t230 bt234.1 true t214 t215 t216 t217)) else (racewaylaw6_ResidualReach.j0 k (wrap64 (1 + (ji13))) t226 t230 bt234.1 true t214 t215 t216 t217))) = some r := H
  have A16 := Aside0.mk A160
  clear A160
  replace H := Option.bind_eq_some_iff.mp H
  obtain ⟨⟨t234, t237⟩, A170, H⟩ := H
  replace H : (if t229 = 0 then (if t233 = 0 then (if t237 = 0 then (if (t230.length : Int) = (wrap64 (t214 + 1)) then (if (t234.length : Int) = (wrap64 (t214 + 1)) then (if 0 < (t230.length : Int) then (if rdOf false t230 0 = true then (racewaylaw6_ResidualReach.j0 k (wrap64 (1 + (ji13))) t226 t230 t234 true t214 t215 t216 t217) else (if 0 ≤ t215 then (if t215 < (t230.length : Int) then (racewaylaw6_ResidualReach.j0 k (wrap64 (1 + (ji13))) t226 t230 t234 (!(rdOf false t230 t215)) t214 t215 t216 t217) else (none)) else (none))) else (none)) else (racewaylaw6_ResidualReach.j0 k (wrap64 (1 + (ji13))) t226 t230 t234 true t214 t215 t216 t217)) else (racewaylaw6_ResidualReach.j0 k (wrap64 (1 + (ji13))) t226 t230 t234 true t214 t215 t216 t217)) else (racewaylaw6_ResidualReach.j0 k (wrap64 (1 + (ji13))) t226 t230 t234 true t214 t215 t216 t217)) else (racewaylaw6_ResidualReach.j0 k (wrap64 (1 + (ji13))) t226 t230 t234 true t214 t215 t216 t217)) else (racewaylaw6_ResidualReach.j0 k (wrap64 (1 + (ji13))) t226 t230 t234 true t214 t215 t216 t217)) = some r := H
  have A17 := Aside0.mk A170
  clear A170
  have HC18 := Aside0.mk H
  clear H
  go_enter Try.func3, Try.ntmps3
  go_upto_region 11 with (first | ((with_reducible refine gate_callee (f := 14) rfl ?_); refine goesL_ (some 30) rfl rfl Try.func14 (by kernel_rfl) rfl #[] rfl (by (try simp only [List.map_toArray, List.map_cons, List.map_nil]); first | done | rfl | (simp only [List.length_drop, List.length_take]; rfl)) ?_; (with_reducible refine (racewaylaw6_shown.calls k  true _ A7.out).mono ?_); rintro e w19 ⟨rfl, hb⟩; refine ⟨_, rfl, ?_⟩; have n0_ := Aside0.mk (below_step (by repeat (first | (with_reducible first | exact HB.out | apply below_alloc | apply pw_below_drewN | apply below_drew1) | exact HB.out)) hb); clear HB; have HB := n0_; clear n0_; (try clear hb); (try clear hb2); (try clear hk); (try clear hi)) | ((with_reducible refine gate_callee (f := 15) rfl ?_); refine goesL_ (some 36) rfl rfl Try.func15 (by kernel_rfl) rfl #[.int .i64 a0, .int .i64 a1, .slice A2 l2.length c2] rfl (by (try simp only [List.map_toArray, List.map_cons, List.map_nil]); first | done | rfl | (simp only [List.length_drop, List.length_take]; rfl)) ?_; (with_reducible refine (racewaylaw6_made.calls k a0 a1 _ _ l2 t214 t215 t216 t217 _ ?side1 ?side2 A9.out).mono ?_); (case side1 => repeat (first | exact (Kd.C_below HR2.out HB.out) | (with_reducible refine Kd.C_alloc ?_ _) | (with_reducible refine Kd.C_drewN ?_ _) | (with_reducible refine Kd.C_drew ?_))); (case side2 => exact HC2.out); rintro e w20 ⟨v218, rfl, ho0, hb⟩; refine ⟨_, rfl, ?_⟩; have n0_ := Aside0.mk (Kd.R_lower ho0 (below_size (by repeat (first | (with_reducible first | exact HB.out | apply below_alloc | apply pw_below_drewN | apply below_drew1) | exact HB.out)))); have n1_ := Aside0.mk (below_step (by repeat (first | (with_reducible first | exact HB.out | apply below_alloc | apply pw_below_drewN | apply below_drew1) | exact HB.out)) hb); clear HB; have HO219 := n0_; have HB := n1_; clear n0_ n1_; (try clear hb); (try clear hb2); (try clear hk); (try clear hi); (try clear ho0)) | ((with_reducible refine gate_dst (N := 14) rfl ?_); (try (refine gate_guard (by rfl) ?_; dsimp only)); refine box_event ?hg (N := 14) ?hd (cs := #[.int .i64 0, .int .i64 0, .int .i64 0, .slice none 0 0]) (t := 27) ?hr ?_; (case hd => rfl); (case hg => rfl); (case hr => first | (go_simp; done) | (go_simp; rfl)); intro gb220 hg w21 hbox hb; have n0_ := Aside0.mk (Kd.R_below (by (with_reducible repeat first | apply Kd.R_alloc | apply Kd.R_drewN | apply Kd.R_drew); exact HO219.out) hb); have n1_ := Aside0.mk (below_step (by repeat (first | (with_reducible first | exact HB.out | apply below_alloc | apply pw_below_drewN | apply below_drew1) | exact HB.out)) hb); have n2_ := Aside0.mk (hbox); have n3_ := Aside0.mk ((by rw [hg]; exact (below_size (by repeat (first | (with_reducible first | exact HB.out | apply below_alloc | apply pw_below_drewN | apply below_drew1) | exact HB.out))) : w.heap.size ≤ gb220)); have n4_ := Aside0.mk ((by rw [hg]; exact (below_size (by repeat (first | (with_reducible first | exact HB.out | apply below_alloc | apply pw_below_drewN | apply below_drew1) | exact HB.out))) : w.heap.size ≤ gb220)); clear HO219; clear HB; have HO219 := n0_; have HB := n1_; have BK220 := n2_; have GW220 := n3_; have GE220 := n4_; clear n0_ n1_ n2_ n3_ n4_; clear hb hbox hg; have hcz22_0 : w21.cell? ⟨gb220, 0, none⟩ = some (.int .i64 0) := (blk_cell BK220.out 0).trans rfl; have hcz22_1 : w21.cell? ⟨gb220, 1, none⟩ = some (.int .i64 0) := (blk_cell BK220.out 1).trans rfl; have hcz22_2 : w21.cell? ⟨gb220, 2, none⟩ = some (.int .i64 0) := (blk_cell BK220.out 2).trans rfl; have hcz22_3 : w21.cell? ⟨gb220, 3, none⟩ = some (.slice none 0 0) := (blk_cell BK220.out 3).trans rfl; have hfz22_0 := blk_frozen BK220.out 0; have hfz22_1 := blk_frozen BK220.out 1; have hfz22_2 := blk_frozen BK220.out 2; have hfz22_3 := blk_frozen BK220.out 3; obtain ⟨Ao23, co23, eo23⟩ := Kd.R_slice HO219.out; (first | subst eo23 | skip)) | ((with_reducible refine gate_callee (f := 16) rfl ?_); refine goesL_ (some 39) rfl rfl Try.func16 (by kernel_rfl) rfl #[.agg #[.int .i64 t214, .int .i64 t215, .int .i64 t216, .slice Ao23 t217.length co23], .slice A3 l3.length c3] rfl (by (try simp only [List.map_toArray, List.map_cons, List.map_nil]); first | done | rfl | (simp only [List.length_drop, List.length_take]; rfl)) ?_; (with_reducible refine (racewaylaw6_routed.calls k t214 t215 t216 _ _ t217 _ _ l3 t221 _ ?side1 ?side2 ?side3 ?side4 A10.out).mono ?_); (case side1 => refine (Kd.R_reads' (e := 49) (base := w.heap.size) (ok := fun k_ => True) (n := t217.length) (c := co23) ?_).2.2; exact (by (with_reducible repeat first | apply Kd.R_alloc | apply Kd.R_drewN | apply Kd.R_drew); exact (Kd.R_mono (Kd.R_far (p := ⟨gb220, 3, none⟩) (Kd.R_far (p := ⟨gb220, 2, none⟩) (Kd.R_far (p := ⟨gb220, 1, none⟩) (Kd.R_far (p := ⟨gb220, 0, none⟩) (Kd.R_types HO219.out BK220.out (by decide)) (fun _ hk => hk.2) (.int .i64 t214)) (fun _ hk => hk.2) (.int .i64 t215)) (fun _ hk => hk.2) (.int .i64 t216)) (fun _ hk => hk.2) (.slice Ao23 t217.length co23)) (fun _ h_ => h_.1)))); (case side2 => exact (Kd.R_reads' HO219.out).2.1); (case side3 => exact Kd.C_below HR3.out (by repeat (first | (with_reducible first | exact HB.out | apply below_alloc | apply pw_below_drewN | apply below_drew1 | refine below_set ?_ GE220.out) | exact HB.out))); (case side4 => exact HC3.out); rintro e w24 ⟨v222, rfl, ho0, hb⟩; refine ⟨_, rfl, ?_⟩; have n0_ := Aside0.mk (Kd.R_below (by (with_reducible repeat first | apply Kd.R_alloc | apply Kd.R_drewN | apply Kd.R_drew); exact (Kd.R_mono (Kd.R_far (p := ⟨gb220, 3, none⟩) (Kd.R_far (p := ⟨gb220, 2, none⟩) (Kd.R_far (p := ⟨gb220, 1, none⟩) (Kd.R_far (p := ⟨gb220, 0, none⟩) (Kd.R_types HO219.out BK220.out (by decide)) (fun _ hk => hk.2) (.int .i64 t214)) (fun _ hk => hk.2) (.int .i64 t215)) (fun _ hk => hk.2) (.int .i64 t216)) (fun _ hk => hk.2) (.slice Ao23 t217.length co23)) (fun _ h_ => h_.1))) hb); have n1_ := Aside0.mk (Kd.R_lower ho0 (below_size (by repeat (first | (with_reducible first | exact HB.out | apply below_alloc | apply pw_below_drewN | apply below_drew1 | refine below_set ?_ GE220.out) | exact HB.out)))); have n2_ := Aside0.mk (blk_below (g := gb220) (o := .cells #[.int .i64 t214, .int .i64 t215, .int .i64 t216, .slice Ao23 t217.length co23] 27 (0, 0)) (by (with_reducible repeat first | refine blk_drewN ?_ _ | refine blk_drew ?_ | refine blk_alloc ?_ _); refine blk_put (cs := #[.int .i64 t214, .int .i64 t215, .int .i64 t216, .slice none 0 0]) ?_ 3 _ rfl; (with_reducible repeat first | refine blk_drewN ?_ _ | refine blk_drew ?_ | refine blk_alloc ?_ _); refine blk_put (cs := #[.int .i64 t214, .int .i64 t215, .int .i64 0, .slice none 0 0]) ?_ 2 _ rfl; (with_reducible repeat first | refine blk_drewN ?_ _ | refine blk_drew ?_ | refine blk_alloc ?_ _); refine blk_put (cs := #[.int .i64 t214, .int .i64 0, .int .i64 0, .slice none 0 0]) ?_ 1 _ rfl; (with_reducible repeat first | refine blk_drewN ?_ _ | refine blk_drew ?_ | refine blk_alloc ?_ _); refine blk_put (cs := #[.int .i64 0, .int .i64 0, .int .i64 0, .slice none 0 0]) ?_ 0 _ rfl; (with_reducible repeat first | refine blk_drewN ?_ _ | refine blk_drew ?_ | refine blk_alloc ?_ _); exact BK220.out) hb); have n3_ := Aside0.mk (below_step (by repeat (first | (with_reducible first | exact HB.out | apply below_alloc | apply pw_below_drewN | apply below_drew1 | refine below_set ?_ GE220.out) | exact HB.out)) hb); clear HO219; clear BK220; clear HB; have HO219 := n0_; have HO223 := n1_; have BK220 := n2_; have HB := n3_; clear n0_ n1_ n2_ n3_; (try clear hb); (try clear hb2); (try clear hk); (try clear hi); (try clear ho0)) | ((with_reducible refine gate_callee (f := 17) rfl ?_); refine goesL_ (some 41) rfl rfl Try.func17 (by kernel_rfl) rfl #[.int .i64 a4, .int .i64 30] rfl (by (try simp only [List.map_toArray, List.map_cons, List.map_nil]); first | done | rfl | (simp only [List.length_drop, List.length_take]; rfl)) ?_; (with_reducible refine (racewaylaw6_pick.calls a4 30 t224 _ A11.out).mono ?_); rintro e w' ⟨rfl, ⟨nd, rfl⟩⟩; refine ⟨_, rfl, ?_⟩) | ((with_reducible refine gate_callee (f := 17) rfl ?_); refine goesL_ (some 43) rfl rfl Try.func17 (by kernel_rfl) rfl #[.int .i64 a5, .int .i64 30] rfl (by (try simp only [List.map_toArray, List.map_cons, List.map_nil]); first | done | rfl | (simp only [List.length_drop, List.length_take]; rfl)) ?_; (with_reducible refine (racewaylaw6_pick.calls a5 30 t225 _ A12.out).mono ?_); rintro e w' ⟨rfl, ⟨nd, rfl⟩⟩; refine ⟨_, rfl, ?_⟩; have hcz25_0 : w24.cell? ⟨gb220, 0, none⟩ = some (.int .i64 t214) := (blk_cell BK220.out 0).trans rfl; have hcz25_1 : w24.cell? ⟨gb220, 1, none⟩ = some (.int .i64 t215) := (blk_cell BK220.out 1).trans rfl; have hcz25_2 : w24.cell? ⟨gb220, 2, none⟩ = some (.int .i64 t216) := (blk_cell BK220.out 2).trans rfl; have hcz25_3 : w24.cell? ⟨gb220, 3, none⟩ = some (.slice Ao23 t217.length co23) := (blk_cell BK220.out 3).trans rfl; have hfz25_0 := blk_frozen BK220.out 0; have hfz25_1 := blk_frozen BK220.out 1; have hfz25_2 := blk_frozen BK220.out 2; have hfz25_3 := blk_frozen BK220.out 3; obtain ⟨Ao26, co26, eo26⟩ := Kd.R_slice HO223.out; (first | subst eo26 | skip)) | ((with_reducible refine gate_callee (f := 17) rfl ?_); refine goesL_ _ rfl rfl Try.func17 (by kernel_rfl) rfl #[.int .i64 a4, .int .i64 30] rfl (by (try simp only [List.map_toArray, List.map_cons, List.map_nil]); first | done | rfl | (simp only [List.length_drop, List.length_take]; rfl)) ?_; (with_reducible refine (racewaylaw6_pick.calls a4 30 t224 _ A11.out).mono ?_); rintro e w' ⟨rfl, ⟨nd, rfl⟩⟩; refine ⟨_, rfl, ?_⟩) | ((with_reducible refine gate_callee (f := 17) rfl ?_); refine goesL_ _ rfl rfl Try.func17 (by kernel_rfl) rfl #[.int .i64 a5, .int .i64 30] rfl (by (try simp only [List.map_toArray, List.map_cons, List.map_nil]); first | done | rfl | (simp only [List.length_drop, List.length_take]; rfl)) ?_; (with_reducible refine (racewaylaw6_pick.calls a5 30 t225 _ A12.out).mono ?_); rintro e w' ⟨rfl, ⟨nd, rfl⟩⟩; refine ⟨_, rfl, ?_⟩) | ((with_reducible refine gate_callee (f := 18) rfl ?_); refine goesL_ (some 55) rfl rfl Try.func18 (by kernel_rfl) rfl #[.agg #[.int .i64 t214, .int .i64 t215, .int .i64 t216, .slice Ao23 t217.length co23], .slice Ao26 t221.length co26] rfl (by (try simp only [List.map_toArray, List.map_cons, List.map_nil]); first | done | rfl | (simp only [List.length_drop, List.length_take]; rfl)) ?_; (with_reducible refine (residual_Room.calls k t214 t215 t216 _ _ t217 _ _ t221 t226 t229 _ ?side1 ?side2 ?side3 ?side4 A15.out).mono ?_); (case side1 => repeat (first | exact (Kd.R_reads' HO219.out).2.2 | (with_reducible refine Kd.C_alloc ?_ _) | (with_reducible refine Kd.C_drewN ?_ _) | (with_reducible refine Kd.C_drew ?_))); (case side2 => exact (Kd.R_reads' HO219.out).2.1); (case side3 => repeat (first | exact (Kd.R_reads' HO223.out).2.2 | (with_reducible refine Kd.C_alloc ?_ _) | (with_reducible refine Kd.C_drewN ?_ _) | (with_reducible refine Kd.C_drew ?_))); (case side4 => exact (Kd.R_reads' HO223.out).2.1); rintro e w27 ⟨v227, rfl, ho0, hb⟩; refine ⟨_, rfl, ?_⟩; have n0_ := Aside0.mk (Kd.R_below (by (with_reducible repeat first | apply Kd.R_alloc | apply Kd.R_drewN | apply Kd.R_drew); exact HO219.out) hb); have n1_ := Aside0.mk (Kd.R_elder' (by (with_reducible repeat first | apply Kd.R_alloc | apply Kd.R_drewN | apply Kd.R_drew); exact HO223.out) (Kd.R_base ho0) hb); have n2_ := Aside0.mk (Kd.R_lower (Kd.R_new' ho0 (Kd.R_lt (by (with_reducible repeat first | apply Kd.R_alloc | apply Kd.R_drewN | apply Kd.R_drew); exact HO223.out))) (below_size (by repeat (first | (with_reducible first | exact HB.out | apply below_alloc | apply pw_below_drewN | apply below_drew1 | refine below_set ?_ GE220.out) | exact HB.out)))); have n3_ := Aside0.mk (blk_below (g := gb220) (o := .cells #[.int .i64 t214, .int .i64 t215, .int .i64 t216, .slice Ao23 t217.length co23] 27 (0, 0)) (by (with_reducible repeat first | refine blk_drewN ?_ _ | refine blk_drew ?_ | refine blk_alloc ?_ _); exact BK220.out) hb); have n4_ := Aside0.mk (below_step (by repeat (first | (with_reducible first | exact HB.out | apply below_alloc | apply pw_below_drewN | apply below_drew1 | refine below_set ?_ GE220.out) | exact HB.out)) hb); clear HO219; clear HO223; clear BK220; clear HB; have HO219 := n0_; have HO223 := n1_; have HO228 := n2_; have BK220 := n3_; have HB := n4_; clear n0_ n1_ n2_ n3_ n4_; (try clear hb); (try clear hb2); (try clear hk); (try clear hi); (try clear ho0); have hcz28_0 : w27.cell? ⟨gb220, 0, none⟩ = some (.int .i64 t214) := (blk_cell BK220.out 0).trans rfl; have hcz28_1 : w27.cell? ⟨gb220, 1, none⟩ = some (.int .i64 t215) := (blk_cell BK220.out 1).trans rfl; have hcz28_2 : w27.cell? ⟨gb220, 2, none⟩ = some (.int .i64 t216) := (blk_cell BK220.out 2).trans rfl; have hcz28_3 : w27.cell? ⟨gb220, 3, none⟩ = some (.slice Ao23 t217.length co23) := (blk_cell BK220.out 3).trans rfl; have hfz28_0 := blk_frozen BK220.out 0; have hfz28_1 := blk_frozen BK220.out 1; have hfz28_2 := blk_frozen BK220.out 2; have hfz28_3 := blk_frozen BK220.out 3) | ((with_reducible refine gate_callee (f := 19) rfl ?_); refine goesL_ (some 62) rfl rfl Try.func19 (by kernel_rfl) rfl #[.agg #[.int .i64 t214, .int .i64 t215, .int .i64 t216, .slice Ao23 t217.length co23], .slice Ao26 t221.length co26, .int .i64 (wrap64 (1 + (ji13)))] rfl (by (try simp only [List.map_toArray, List.map_cons, List.map_nil]); first | done | (simp only [hji13]; rfl) | rfl | (simp only [List.length_drop, List.length_take]; rfl)) ?_; (with_reducible refine (residual_Reach.calls k t214 t215 t216 _ _ t217 _ _ t221 (wrap64 (1 + (ji13))) t230 t233 _ ?side1 ?side2 ?side3 ?side4 A16.out).mono ?_); (case side1 => repeat (first | exact (Kd.R_reads' HO219.out).2.2 | (with_reducible refine Kd.C_alloc ?_ _) | (with_reducible refine Kd.C_drewN ?_ _) | (with_reducible refine Kd.C_drew ?_))); (case side2 => exact (Kd.R_reads' HO219.out).2.1); (case side3 => repeat (first | exact (Kd.R_reads' HO223.out).2.2 | (with_reducible refine Kd.C_alloc ?_ _) | (with_reducible refine Kd.C_drewN ?_ _) | (with_reducible refine Kd.C_drew ?_))); (case side4 => exact (Kd.R_reads' HO223.out).2.1); rintro e w29 ⟨v231, rfl, ho0, hb⟩; refine ⟨_, rfl, ?_⟩; have n0_ := Aside0.mk (Kd.R_below (by (with_reducible repeat first | apply Kd.R_alloc | apply Kd.R_drewN | apply Kd.R_drew); exact HO219.out) hb); have n1_ := Aside0.mk (Kd.R_below (by (with_reducible repeat first | apply Kd.R_alloc | apply Kd.R_drewN | apply Kd.R_drew); exact HO223.out) hb); have n2_ := Aside0.mk (Kd.R_below (by (with_reducible repeat first | apply Kd.R_alloc | apply Kd.R_drewN | apply Kd.R_drew); exact HO228.out) hb); have n3_ := Aside0.mk (Kd.R_lower ho0 (below_size (by repeat (first | (with_reducible first | exact HB.out | apply below_alloc | apply pw_below_drewN | apply below_drew1 | refine below_set ?_ GE220.out) | exact HB.out)))); have n4_ := Aside0.mk (blk_below (g := gb220) (o := .cells #[.int .i64 t214, .int .i64 t215, .int .i64 t216, .slice Ao23 t217.length co23] 27 (0, 0)) (by (with_reducible repeat first | refine blk_drewN ?_ _ | refine blk_drew ?_ | refine blk_alloc ?_ _); exact BK220.out) hb); have n5_ := Aside0.mk (below_step (by repeat (first | (with_reducible first | exact HB.out | apply below_alloc | apply pw_below_drewN | apply below_drew1 | refine below_set ?_ GE220.out) | exact HB.out)) hb); clear HO219; clear HO223; clear HO228; clear BK220; clear HB; have HO219 := n0_; have HO223 := n1_; have HO228 := n2_; have HO232 := n3_; have BK220 := n4_; have HB := n5_; clear n0_ n1_ n2_ n3_ n4_ n5_; (try clear hb); (try clear hb2); (try clear hk); (try clear hi); (try clear ho0); have hcz30_0 : w29.cell? ⟨gb220, 0, none⟩ = some (.int .i64 t214) := (blk_cell BK220.out 0).trans rfl; have hcz30_1 : w29.cell? ⟨gb220, 1, none⟩ = some (.int .i64 t215) := (blk_cell BK220.out 1).trans rfl; have hcz30_2 : w29.cell? ⟨gb220, 2, none⟩ = some (.int .i64 t216) := (blk_cell BK220.out 2).trans rfl; have hcz30_3 : w29.cell? ⟨gb220, 3, none⟩ = some (.slice Ao23 t217.length co23) := (blk_cell BK220.out 3).trans rfl; have hfz30_0 := blk_frozen BK220.out 0; have hfz30_1 := blk_frozen BK220.out 1; have hfz30_2 := blk_frozen BK220.out 2; have hfz30_3 := blk_frozen BK220.out 3) | ((with_reducible refine gate_callee (f := 19) rfl ?_); refine goesL_ (some 69) rfl rfl Try.func19 (by kernel_rfl) rfl #[.agg #[.int .i64 t214, .int .i64 t215, .int .i64 t216, .slice Ao23 t217.length co23], .slice Ao26 t221.length co26, .int .i64 (wrap64 (1 + (ji14)))] rfl (by (try simp only [List.map_toArray, List.map_cons, List.map_nil]); first | done | (simp only [hji14]; rfl) | rfl | (simp only [List.length_drop, List.length_take]; rfl)) ?_; (with_reducible refine (residual_Reach.calls k t214 t215 t216 _ _ t217 _ _ t221 (wrap64 (1 + (ji14))) t234 t237 _ ?side1 ?side2 ?side3 ?side4 A17.out).mono ?_); (case side1 => repeat (first | exact (Kd.R_reads' HO219.out).2.2 | (with_reducible refine Kd.C_alloc ?_ _) | (with_reducible refine Kd.C_drewN ?_ _) | (with_reducible refine Kd.C_drew ?_))); (case side2 => exact (Kd.R_reads' HO219.out).2.1); (case side3 => repeat (first | exact (Kd.R_reads' HO223.out).2.2 | (with_reducible refine Kd.C_alloc ?_ _) | (with_reducible refine Kd.C_drewN ?_ _) | (with_reducible refine Kd.C_drew ?_))); (case side4 => exact (Kd.R_reads' HO223.out).2.1); rintro e w31 ⟨v235, rfl, ho0, hb⟩; refine ⟨_, rfl, ?_⟩; have n0_ := Aside0.mk (Kd.R_below (by (with_reducible repeat first | apply Kd.R_alloc | apply Kd.R_drewN | apply Kd.R_drew); exact HO219.out) hb); have n1_ := Aside0.mk (Kd.R_below (by (with_reducible repeat first | apply Kd.R_alloc | apply Kd.R_drewN | apply Kd.R_drew); exact HO223.out) hb); have n2_ := Aside0.mk (Kd.R_below (by (with_reducible repeat first | apply Kd.R_alloc | apply Kd.R_drewN | apply Kd.R_drew); exact HO228.out) hb); have n3_ := Aside0.mk (Kd.R_elder' (by (with_reducible repeat first | apply Kd.R_alloc | apply Kd.R_drewN | apply Kd.R_drew); exact HO232.out) (Kd.R_base ho0) hb); have n4_ := Aside0.mk (Kd.R_lower (Kd.R_new' ho0 (Kd.R_lt (by (with_reducible repeat first | apply Kd.R_alloc | apply Kd.R_drewN | apply Kd.R_drew); exact HO232.out))) (below_size (by repeat (first | (with_reducible first | exact HB.out | apply below_alloc | apply pw_below_drewN | apply below_drew1 | refine below_set ?_ GE220.out) | exact HB.out)))); have n5_ := Aside0.mk (blk_below (g := gb220) (o := .cells #[.int .i64 t214, .int .i64 t215, .int .i64 t216, .slice Ao23 t217.length co23] 27 (0, 0)) (by (with_reducible repeat first | refine blk_drewN ?_ _ | refine blk_drew ?_ | refine blk_alloc ?_ _); exact BK220.out) hb); have n6_ := Aside0.mk (below_step (by repeat (first | (with_reducible first | exact HB.out | apply below_alloc | apply pw_below_drewN | apply below_drew1 | refine below_set ?_ GE220.out) | exact HB.out)) hb); clear HO219; clear HO223; clear HO228; clear HO232; clear BK220; clear HB; have HO219 := n0_; have HO223 := n1_; have HO228 := n2_; have HO232 := n3_; have HO236 := n4_; have BK220 := n5_; have HB := n6_; clear n0_ n1_ n2_ n3_ n4_ n5_ n6_; (try clear hb); (try clear hb2); (try clear hk); (try clear hi); (try clear ho0)))
  (try simp only [Act.put, List.setIfInBounds_toArray, List.set_cons_zero, List.set_cons_succ])
  go_cut [110] (fun v110 wc => ∃ (kq : Nat) (x110_17 : Bool), v110 = .bool x110_17 ∧ Aside0 (racewaylaw6_ResidualReach.j0 kq (wrap64 (1 + (ji13))) t226 t230 t234 x110_17 t214 t215 t216 t217 = some r) ∧ Aside0 (kq ≤ k) ∧ Aside0 (Kd.R (Kd.int .i64) 2 wc w.heap.size (fun _ => True) v227 t226) ∧ Aside0 (Kd.R Kd.bool 4 wc w.heap.size (fun k_ => some k_ ≠ (v235 : Value).ownBlock) v231 t230) ∧ Aside0 (Kd.R Kd.bool 4 wc w.heap.size (fun k_ => some k_ ≠ (v231 : Value).ownBlock) v235 t234) ∧ Aside0 (Kd.R k49 49 wc w.heap.size (fun _ => True) (.slice Ao23 t217.length co23) t217) ∧ Aside0 (wc.heap[gb220]? = some (.cells #[.int .i64 t214, .int .i64 t215, .int .i64 t216, (.slice Ao23 t217.length co23)] 27 (0, 0))) ∧ Aside0 (Below w.heap.size w wc))
  case first =>
   (have H := HC18.out);(clear HC18)
   by_cases c32 : t229 = 0
   ·(rw [if_pos c32] at H);(have c32b0 : (t229 == 0) = true := beq_iff_eq.mpr c32);(have c32b1 : (t229 != 0) = false := bne_eq_false_iff_eq.mpr c32);(clear c32);((first | rw [c32b0] | (simp only [i64_w, i32_w]; rw [c32b0]) | skip))
    by_cases c33 : t233 = 0
    ·(rw [if_pos c33] at H);(have c33b0 : (t233 == 0) = true := beq_iff_eq.mpr c33);(have c33b1 : (t233 != 0) = false := bne_eq_false_iff_eq.mpr c33);(clear c33)
     by_cases c34 : t237 = 0
     ·(rw [if_pos c34] at H);(have c34b0 : (t237 == 0) = true := beq_iff_eq.mpr c34);(have c34b1 : (t237 != 0) = false := bne_eq_false_iff_eq.mpr c34);(clear c34)
      by_cases c35 : (t230.length : Int) = (wrap64 (t214 + 1))
      ·(rw [if_pos c35] at H);(have c35b0 : ((t230.length : Int) == (wrap64 (t214 + 1))) = true := beq_iff_eq.mpr c35);(have c35b1 : ((t230.length : Int) != (wrap64 (t214 + 1))) = false := bne_eq_false_iff_eq.mpr c35);(clear c35)
       by_cases c36 : (t234.length : Int) = (wrap64 (t214 + 1))
       ·(rw [if_pos c36] at H);(have c36b0 : ((t234.length : Int) == (wrap64 (t214 + 1))) = true := beq_iff_eq.mpr c36);(have c36b1 : ((t234.length : Int) != (wrap64 (t214 + 1))) = false := bne_eq_false_iff_eq.mpr c36);(clear c36)
        by_cases c37 : 0 < (t230.length : Int)
        ·(rw [if_pos c37] at H);(have c37b0 : decide (0 < (t230.length : Int)) = true := decide_eq_true c37);(have c37b1 : decide (0 < t230.length) = true := decide_eq_true (by omega));(clear c37);(obtain ⟨bq38, hbq38⟩ : ∃ b_ : Bool, b_ = (rdOf false t230 0) := ⟨_, rfl⟩);(replace H : (if bq38 = true then (racewaylaw6_ResidualReach.j0 k (wrap64 (1 + (ji13))) t226 t230 t234 true t214 t215 t216 t217) else (if 0 ≤ t215 then (if t215 < (t230.length : Int) then (racewaylaw6_ResidualReach.j0 k (wrap64 (1 + (ji13))) t226 t230 t234 (!(rdOf false t230 t215)) t214 t215 t216 t217) else (none)) else (none))) = some r := by rw [← hbq38] at H; exact H);(have Nbq38 := Aside0.mk hbq38);(clear hbq38)
         by_cases c39 : bq38 = true
         ·(subst c39);(have H1 : (racewaylaw6_ResidualReach.j0 k (wrap64 (1 + (ji13))) t226 t230 t234 true t214 t215 t216 t217) = some r := by rw [if_pos rfl] at H; exact H);(clear H);(have H := H1);(clear H1)
          as_aux_lemma =>
           (have H' := Aside0.mk H);(clear H);(obtain ⟨Ao40, co40, eo40⟩ := Kd.R_slice HO232.out);(subst eo40);(have hcz41_0 : w31.cell? ⟨gb220, 0, none⟩ = some (.int .i64 t214) := (blk_cell BK220.out 0).trans rfl);(have hcz41_1 : w31.cell? ⟨gb220, 1, none⟩ = some (.int .i64 t215) := (blk_cell BK220.out 1).trans rfl);(have hcz41_2 : w31.cell? ⟨gb220, 2, none⟩ = some (.int .i64 t216) := (blk_cell BK220.out 2).trans rfl);(have hcz41_3 : w31.cell? ⟨gb220, 3, none⟩ = some (.slice Ao23 t217.length co23) := (blk_cell BK220.out 3).trans rfl);(have hfz41_0 := blk_frozen BK220.out 0);(have hfz41_1 := blk_frozen BK220.out 1);(have hfz41_2 := blk_frozen BK220.out 2);(have hfz41_3 := blk_frozen BK220.out 3);(obtain ⟨Ao42, co42, eo42⟩ := Kd.R_slice HO236.out);(subst eo42);(have p238 : 0 ≤ (0 : Int) := (by omega));(have q238 : 0 < (t230.length : Int) := of_decide_eq_true (by first | (with_reducible assumption) | assumption));(obtain ⟨ad238, e238, hx238_0⟩ := Kd.at_bool (Kd.R_reads' HO232.out).2.2 0 p238 q238);((try rw [← Nbq38.out] at hx238_0));(cases e238);(have qi238 : (0 < t230.length) = True := eq_true (by omega));((try rw [show ((0 : Int)).toNat = 0 from rfl] at hx238_0));((try rw [Addr.add_zero'] at hx238_0));(replace p238 := eq_true p238);(replace q238 := eq_true q238)
           go_wp2
           go_meet
           case rel => exact ⟨_, (true), (by first | rfl | (simp; done) | (simp [*]; done)), H', ⟨by first | omega | exact Nat.le_refl _⟩, ⟨by (with_reducible repeat first | apply Kd.R_alloc | apply Kd.R_drewN | apply Kd.R_drew); exact Kd.R_mono HO228.out (fun _ hk => trivial)⟩, ⟨by (with_reducible repeat first | apply Kd.R_alloc | apply Kd.R_drewN | apply Kd.R_drew); exact Kd.R_mono HO232.out (fun _ hk => hk.2)⟩, ⟨by (with_reducible repeat first | apply Kd.R_alloc | apply Kd.R_drewN | apply Kd.R_drew); exact Kd.R_mono HO236.out (fun _ hk => hk.2)⟩, ⟨by (with_reducible repeat first | apply Kd.R_alloc | apply Kd.R_drewN | apply Kd.R_drew); exact HO219.out⟩, ⟨by (with_reducible repeat first | refine blk_drewN ?_ _ | refine blk_drew ?_ | refine blk_alloc ?_ _); exact BK220.out⟩, ⟨by repeat (first | (with_reducible first | exact HB.out | apply below_alloc | apply pw_below_drewN | apply below_drew1 | refine below_set ?_ GE220.out) | exact HB.out)⟩⟩
         ·(replace c39 := Bool.eq_false_iff.mpr c39);(subst c39);(have H1 : (if 0 ≤ t215 then (if t215 < (t230.length : Int) then (racewaylaw6_ResidualReach.j0 k (wrap64 (1 + (ji13))) t226 t230 t234 (!(rdOf false t230 t215)) t214 t215 t216 t217) else (none)) else (none)) = some r := by rw [if_neg (show ¬ (false = true) by decide)] at H; exact H);(clear H);(have H := H1);(clear H1)
          by_cases c43 : 0 ≤ t215
          ·(rw [if_pos c43] at H);(have c43b0 : decide (0 ≤ t215) = true := decide_eq_true c43);(clear c43)
           by_cases c44 : t215 < (t230.length : Int)
           ·(rw [if_pos c44] at H);(have c44b0 : decide (t215 < (t230.length : Int)) = true := decide_eq_true c44);(clear c44)
            as_aux_lemma =>
             (have H' := Aside0.mk H);(clear H);(obtain ⟨Ao45, co45, eo45⟩ := Kd.R_slice HO232.out);(subst eo45);(have hcz46_0 : w31.cell? ⟨gb220, 0, none⟩ = some (.int .i64 t214) := (blk_cell BK220.out 0).trans rfl);(have hcz46_1 : w31.cell? ⟨gb220, 1, none⟩ = some (.int .i64 t215) := (blk_cell BK220.out 1).trans rfl);(have hcz46_2 : w31.cell? ⟨gb220, 2, none⟩ = some (.int .i64 t216) := (blk_cell BK220.out 2).trans rfl);(have hcz46_3 : w31.cell? ⟨gb220, 3, none⟩ = some (.slice Ao23 t217.length co23) := (blk_cell BK220.out 3).trans rfl);(have hfz46_0 := blk_frozen BK220.out 0);(have hfz46_1 := blk_frozen BK220.out 1);(have hfz46_2 := blk_frozen BK220.out 2);(have hfz46_3 := blk_frozen BK220.out 3);(obtain ⟨Ao47, co47, eo47⟩ := Kd.R_slice HO236.out);(subst eo47);(have p238 : 0 ≤ (0 : Int) := (by omega));(have q238 : 0 < (t230.length : Int) := of_decide_eq_true (by first | (with_reducible assumption) | assumption));(obtain ⟨ad238, e238, hx238_0⟩ := Kd.at_bool (Kd.R_reads' HO232.out).2.2 0 p238 q238);((try rw [← Nbq38.out] at hx238_0));(cases e238);(have qi238 : (0 < t230.length) = True := eq_true (by omega));((try rw [show ((0 : Int)).toNat = 0 from rfl] at hx238_0));((try rw [Addr.add_zero'] at hx238_0));(replace p238 := eq_true p238);(replace q238 := eq_true q238);(have p239 : 0 ≤ (t215 : Int) := of_decide_eq_true (by first | (with_reducible assumption) | assumption));(have q239 : t215 < (t230.length : Int) := of_decide_eq_true (by first | (with_reducible assumption) | assumption));(obtain ⟨ad239, e239, hx239_0⟩ := Kd.at_bool (Kd.R_reads' HO232.out).2.2 t215 p239 q239);((try rw [← Nbq38.out] at hx239_0));(obtain rfl : ad238 = ad239 := (by injection e239));(replace p239 := eq_true p239);(replace q239 := eq_true q239)
             go_wp2
             go_meet
             case rel => exact ⟨_, (!(rdOf false t230 t215)), (by first | rfl | (simp; done) | (simp [*]; done)), H', ⟨by first | omega | exact Nat.le_refl _⟩, ⟨by (with_reducible repeat first | apply Kd.R_alloc | apply Kd.R_drewN | apply Kd.R_drew); exact Kd.R_mono HO228.out (fun _ hk => trivial)⟩, ⟨by (with_reducible repeat first | apply Kd.R_alloc | apply Kd.R_drewN | apply Kd.R_drew); exact Kd.R_mono HO232.out (fun _ hk => hk.2)⟩, ⟨by (with_reducible repeat first | apply Kd.R_alloc | apply Kd.R_drewN | apply Kd.R_drew); exact Kd.R_mono HO236.out (fun _ hk => hk.2)⟩, ⟨by (with_reducible repeat first | apply Kd.R_alloc | apply Kd.R_drewN | apply Kd.R_drew); exact HO219.out⟩, ⟨by (with_reducible repeat first | refine blk_drewN ?_ _ | refine blk_drew ?_ | refine blk_alloc ?_ _); exact BK220.out⟩, ⟨by repeat (first | (with_reducible first | exact HB.out | apply below_alloc | apply pw_below_drewN | apply below_drew1 | refine below_set ?_ GE220.out) | exact HB.out)⟩⟩
           ·(rw [if_neg c44] at H);(exact absurd H (by simp))
          ·(rw [if_neg c43] at H);(exact absurd H (by simp))
        ·(rw [if_neg c37] at H);(exact absurd H (by simp))
       ·(rw [if_neg c36] at H);(have c36b0 : ((t234.length : Int) == (wrap64 (t214 + 1))) = false := beq_eq_false_iff_ne.mpr c36);(have c36b1 : ((t234.length : Int) != (wrap64 (t214 + 1))) = true := bne_iff_ne.mpr c36)
        as_aux_lemma =>
         (have H' := Aside0.mk H);(clear H);(obtain ⟨Ao48, co48, eo48⟩ := Kd.R_slice HO232.out);(subst eo48);(have hcz49_0 : w31.cell? ⟨gb220, 0, none⟩ = some (.int .i64 t214) := (blk_cell BK220.out 0).trans rfl);(have hcz49_1 : w31.cell? ⟨gb220, 1, none⟩ = some (.int .i64 t215) := (blk_cell BK220.out 1).trans rfl);(have hcz49_2 : w31.cell? ⟨gb220, 2, none⟩ = some (.int .i64 t216) := (blk_cell BK220.out 2).trans rfl);(have hcz49_3 : w31.cell? ⟨gb220, 3, none⟩ = some (.slice Ao23 t217.length co23) := (blk_cell BK220.out 3).trans rfl);(have hfz49_0 := blk_frozen BK220.out 0);(have hfz49_1 := blk_frozen BK220.out 1);(have hfz49_2 := blk_frozen BK220.out 2);(have hfz49_3 := blk_frozen BK220.out 3);(obtain ⟨Ao50, co50, eo50⟩ := Kd.R_slice HO236.out);(subst eo50)
         go_wp2
         go_meet
         case rel => exact ⟨_, (true), (by first | rfl | (simp; done) | (simp [*]; done)), H', ⟨by first | omega | exact Nat.le_refl _⟩, ⟨by (with_reducible repeat first | apply Kd.R_alloc | apply Kd.R_drewN | apply Kd.R_drew); exact Kd.R_mono HO228.out (fun _ hk => trivial)⟩, ⟨by (with_reducible repeat first | apply Kd.R_alloc | apply Kd.R_drewN | apply Kd.R_drew); exact Kd.R_mono HO232.out (fun _ hk => hk.2)⟩, ⟨by (with_reducible repeat first | apply Kd.R_alloc | apply Kd.R_drewN | apply Kd.R_drew); exact Kd.R_mono HO236.out (fun _ hk => hk.2)⟩, ⟨by (with_reducible repeat first | apply Kd.R_alloc | apply Kd.R_drewN | apply Kd.R_drew); exact HO219.out⟩, ⟨by (with_reducible repeat first | refine blk_drewN ?_ _ | refine blk_drew ?_ | refine blk_alloc ?_ _); exact BK220.out⟩, ⟨by repeat (first | (with_reducible first | exact HB.out | apply below_alloc | apply pw_below_drewN | apply below_drew1 | refine below_set ?_ GE220.out) | exact HB.out)⟩⟩
      ·(rw [if_neg c35] at H);(have c35b0 : ((t230.length : Int) == (wrap64 (t214 + 1))) = false := beq_eq_false_iff_ne.mpr c35);(have c35b1 : ((t230.length : Int) != (wrap64 (t214 + 1))) = true := bne_iff_ne.mpr c35)
       as_aux_lemma =>
        (have H' := Aside0.mk H);(clear H);(obtain ⟨Ao51, co51, eo51⟩ := Kd.R_slice HO232.out);(subst eo51);(have hcz52_0 : w31.cell? ⟨gb220, 0, none⟩ = some (.int .i64 t214) := (blk_cell BK220.out 0).trans rfl);(have hcz52_1 : w31.cell? ⟨gb220, 1, none⟩ = some (.int .i64 t215) := (blk_cell BK220.out 1).trans rfl);(have hcz52_2 : w31.cell? ⟨gb220, 2, none⟩ = some (.int .i64 t216) := (blk_cell BK220.out 2).trans rfl);(have hcz52_3 : w31.cell? ⟨gb220, 3, none⟩ = some (.slice Ao23 t217.length co23) := (blk_cell BK220.out 3).trans rfl);(have hfz52_0 := blk_frozen BK220.out 0);(have hfz52_1 := blk_frozen BK220.out 1);(have hfz52_2 := blk_frozen BK220.out 2);(have hfz52_3 := blk_frozen BK220.out 3)
        go_wp2
        go_meet
        case rel => exact ⟨_, (true), (by first | rfl | (simp; done) | (simp [*]; done)), H', ⟨by first | omega | exact Nat.le_refl _⟩, ⟨by (with_reducible repeat first | apply Kd.R_alloc | apply Kd.R_drewN | apply Kd.R_drew); exact Kd.R_mono HO228.out (fun _ hk => trivial)⟩, ⟨by (with_reducible repeat first | apply Kd.R_alloc | apply Kd.R_drewN | apply Kd.R_drew); exact Kd.R_mono HO232.out (fun _ hk => hk.2)⟩, ⟨by (with_reducible repeat first | apply Kd.R_alloc | apply Kd.R_drewN | apply Kd.R_drew); exact Kd.R_mono HO236.out (fun _ hk => hk.2)⟩, ⟨by (with_reducible repeat first | apply Kd.R_alloc | apply Kd.R_drewN | apply Kd.R_drew); exact HO219.out⟩, ⟨by (with_reducible repeat first | refine blk_drewN ?_ _ | refine blk_drew ?_ | refine blk_alloc ?_ _); exact BK220.out⟩, ⟨by repeat (first | (with_reducible first | exact HB.out | apply below_alloc | apply pw_below_drewN | apply below_drew1 | refine below_set ?_ GE220.out) | exact HB.out)⟩⟩
     ·(rw [if_neg c34] at H);(have c34b0 : (t237 == 0) = false := beq_eq_false_iff_ne.mpr c34);(have c34b1 : (t237 != 0) = true := bne_iff_ne.mpr c34)
      as_aux_lemma =>
       (have H' := Aside0.mk H);(clear H)
       go_wp2
       go_meet
       case rel => exact ⟨_, (true), (by first | rfl | (simp; done) | (simp [*]; done)), H', ⟨by first | omega | exact Nat.le_refl _⟩, ⟨by (with_reducible repeat first | apply Kd.R_alloc | apply Kd.R_drewN | apply Kd.R_drew); exact Kd.R_mono HO228.out (fun _ hk => trivial)⟩, ⟨by (with_reducible repeat first | apply Kd.R_alloc | apply Kd.R_drewN | apply Kd.R_drew); exact Kd.R_mono HO232.out (fun _ hk => hk.2)⟩, ⟨by (with_reducible repeat first | apply Kd.R_alloc | apply Kd.R_drewN | apply Kd.R_drew); exact Kd.R_mono HO236.out (fun _ hk => hk.2)⟩, ⟨by (with_reducible repeat first | apply Kd.R_alloc | apply Kd.R_drewN | apply Kd.R_drew); exact HO219.out⟩, ⟨by (with_reducible repeat first | refine blk_drewN ?_ _ | refine blk_drew ?_ | refine blk_alloc ?_ _); exact BK220.out⟩, ⟨by repeat (first | (with_reducible first | exact HB.out | apply below_alloc | apply pw_below_drewN | apply below_drew1 | refine below_set ?_ GE220.out) | exact HB.out)⟩⟩
    ·(rw [if_neg c33] at H);(have c33b0 : (t233 == 0) = false := beq_eq_false_iff_ne.mpr c33);(have c33b1 : (t233 != 0) = true := bne_iff_ne.mpr c33)
     as_aux_lemma =>
      (have H' := Aside0.mk H);(clear H)
      go_wp2
      go_meet
      case rel => exact ⟨_, (true), (by first | rfl | (simp; done) | (simp [*]; done)), H', ⟨by first | omega | exact Nat.le_refl _⟩, ⟨by (with_reducible repeat first | apply Kd.R_alloc | apply Kd.R_drewN | apply Kd.R_drew); exact Kd.R_mono HO228.out (fun _ hk => trivial)⟩, ⟨by (with_reducible repeat first | apply Kd.R_alloc | apply Kd.R_drewN | apply Kd.R_drew); exact Kd.R_mono HO232.out (fun _ hk => hk.2)⟩, ⟨by (with_reducible repeat first | apply Kd.R_alloc | apply Kd.R_drewN | apply Kd.R_drew); exact Kd.R_mono HO236.out (fun _ hk => hk.2)⟩, ⟨by (with_reducible repeat first | apply Kd.R_alloc | apply Kd.R_drewN | apply Kd.R_drew); exact HO219.out⟩, ⟨by (with_reducible repeat first | refine blk_drewN ?_ _ | refine blk_drew ?_ | refine blk_alloc ?_ _); exact BK220.out⟩, ⟨by repeat (first | (with_reducible first | exact HB.out | apply below_alloc | apply pw_below_drewN | apply below_drew1 | refine below_set ?_ GE220.out) | exact HB.out)⟩⟩
   ·(rw [if_neg c32] at H);(have c32b0 : (t229 == 0) = false := beq_eq_false_iff_ne.mpr c32);(have c32b1 : (t229 != 0) = true := bne_iff_ne.mpr c32);((first | rw [c32b0] | (simp only [i64_w, i32_w]; rw [c32b0]) | skip))
    as_aux_lemma =>
     (have H' := Aside0.mk H);(clear H)
     go_wp2
     go_meet
     case rel => exact ⟨_, (true), (by first | rfl | (simp; done) | (simp [*]; done)), H', ⟨by first | omega | exact Nat.le_refl _⟩, ⟨by (with_reducible repeat first | apply Kd.R_alloc | apply Kd.R_drewN | apply Kd.R_drew); exact Kd.R_mono HO228.out (fun _ hk => trivial)⟩, ⟨by (with_reducible repeat first | apply Kd.R_alloc | apply Kd.R_drewN | apply Kd.R_drew); exact Kd.R_mono HO232.out (fun _ hk => hk.2)⟩, ⟨by (with_reducible repeat first | apply Kd.R_alloc | apply Kd.R_drewN | apply Kd.R_drew); exact Kd.R_mono HO236.out (fun _ hk => hk.2)⟩, ⟨by (with_reducible repeat first | apply Kd.R_alloc | apply Kd.R_drewN | apply Kd.R_drew); exact HO219.out⟩, ⟨by (with_reducible repeat first | refine blk_drewN ?_ _ | refine blk_drew ?_ | refine blk_alloc ?_ _); exact BK220.out⟩, ⟨by repeat (first | (with_reducible first | exact HB.out | apply below_alloc | apply pw_below_drewN | apply below_drew1 | refine below_set ?_ GE220.out) | exact HB.out)⟩⟩
  case rest =>
   clear HC18
   try clear c1
   try clear c2
   try clear p2
   try clear q2
   try clear hx2
   try clear qi2
   try clear c3
   try clear q3
   try clear c4
   try clear p6
   try clear c8
   try clear c14
   try clear c15
   try clear c16
   try clear c17
   try clear c18
   try clear c19
   try clear p23
   try clear q23
   try clear hx23
   try clear qi23
   try clear c32
   try clear c32b0
   try clear c32b1
   try clear c33
   try clear c33b0
   try clear c33b1
   try clear c34
   try clear c34b0
   try clear c34b1
   try clear c35
   try clear c35b0
   try clear c35b1
   try clear c36
   try clear c36b0
   try clear c36b1
   try clear c37
   try clear c37b0
   try clear c37b1
   try clear q38
   try clear c39
   try clear c43
   try clear c43b0
   try clear c44
   try clear c44b0
   try clear hcz22_0
   try clear hcz22_1
   try clear hcz22_2
   try clear hcz22_3
   try clear hcz25_0
   try clear hcz25_1
   try clear hcz25_2
   try clear hcz25_3
   try clear hcz28_0
   try clear hcz28_1
   try clear hcz28_2
   try clear hcz28_3
   try clear hcz30_0
   try clear hcz30_1
   try clear hcz30_2
   try clear hcz30_3
   try clear hcz41_0
   try clear hcz41_1
   try clear hcz41_2
   try clear hcz41_3
   try clear hcz46_0
   try clear hcz46_1
   try clear hcz46_2
   try clear hcz46_3
   try clear hcz49_0
   try clear hcz49_1
   try clear hcz49_2
   try clear hcz49_3
   try clear hcz52_0
   try clear hcz52_1
   try clear hcz52_2
   try clear hcz52_3
   try clear hfz22_0
   try clear hfz22_1
   try clear hfz22_2
   try clear hfz22_3
   try clear hfz25_0
   try clear hfz25_1
   try clear hfz25_2
   try clear hfz25_3
   try clear hfz28_0
   try clear hfz28_1
   try clear hfz28_2
   try clear hfz28_3
   try clear hfz30_0
   try clear hfz30_1
   try clear hfz30_2
   try clear hfz30_3
   try clear hfz41_0
   try clear hfz41_1
   try clear hfz41_2
   try clear hfz41_3
   try clear hfz46_0
   try clear hfz46_1
   try clear hfz46_2
   try clear hfz46_3
   try clear hfz49_0
   try clear hfz49_1
   try clear hfz49_2
   try clear hfz49_3
   try clear hfz52_0
   try clear hfz52_1
   try clear hfz52_2
   try clear hfz52_3
   try clear hx238_0
   try clear hx239_0
   try clear p238
   try clear p239
   try clear q238
   try clear q239
   obtain ⟨kq, x110_17, rfl, HA, HJ17, HO_18, HO_20, HO_22, HO_221003, BK220, HB⟩ := hcut
   cases kq with
   | zero => exact absurd HA.out (by simp [racewaylaw6_ResidualReach.j0])
   | succ kj17 =>
    (have H := HA.out);(clear HA);(simp only [racewaylaw6_ResidualReach.j0] at H)
    by_cases c53 : x110_17 = true
    ·(subst c53);(have H1 : (some false) = some r := by rw [if_pos rfl] at H; exact H);(clear H);(have H := H1);(clear H1);(exact absurd ((Option.some.inj H).trans hrT_.out) (by simp))
    ·(replace c53 := Bool.eq_false_iff.mpr c53);(subst c53);(have H1 : (racewaylaw6_ResidualReach.l0 kj17 (wrap64 (1 + (ji13))) t226 t230 t234 1 t214 t215 t216 t217) = some r := by rw [if_neg (show ¬ (false = true) by decide)] at H; exact H);(clear H);(have H := H1);(clear H1);(have H' := Aside0.mk H);(clear H)
     go_wp2
     go_loopg [24] kj17 (fun kq v24 w' => ∃ (x24_2 : Int), v24 = .int .i64 x24_2 ∧ Aside0 (racewaylaw6_ResidualReach.l0 kq (wrap64 (1 + (ji13))) t226 t230 t234 x24_2 t214 t215 t216 t217 = some r) ∧ Aside0 (kq ≤ kj17) ∧ Aside0 (Kd.R (Kd.int .i64) 2 w' w.heap.size (fun _ => True) v227 t226) ∧ Aside0 (Kd.R Kd.bool 4 w' w.heap.size (fun k_ => some k_ ≠ (v235 : Value).ownBlock) v231 t230) ∧ Aside0 (Kd.R Kd.bool 4 w' w.heap.size (fun k_ => some k_ ≠ (v231 : Value).ownBlock) v235 t234) ∧ Aside0 (Kd.R k49 49 w' w.heap.size (fun _ => True) (.slice Ao23 t217.length co23) t217) ∧ Aside0 (w'.heap[gb220]? = some (.cells #[.int .i64 t214, .int .i64 t215, .int .i64 t216, (.slice Ao23 t217.length co23)] 27 (0, 0))) ∧ Aside0 (Below w.heap.size w w'))
     case atStart => exact ⟨(1), (by first | rfl | (simp; done) | (simp [*]; done)), H', ⟨Nat.le_refl _⟩, ⟨by (with_reducible repeat first | apply Kd.R_alloc | apply Kd.R_drewN | apply Kd.R_drew); exact HO_18.out⟩, ⟨by (with_reducible repeat first | apply Kd.R_alloc | apply Kd.R_drewN | apply Kd.R_drew); exact HO_20.out⟩, ⟨by (with_reducible repeat first | apply Kd.R_alloc | apply Kd.R_drewN | apply Kd.R_drew); exact HO_22.out⟩, ⟨by (with_reducible repeat first | apply Kd.R_alloc | apply Kd.R_drewN | apply Kd.R_drew); exact HO_221003.out⟩, ⟨by (with_reducible repeat first | refine blk_drewN ?_ _ | refine blk_drew ?_ | refine blk_alloc ?_ _); exact BK220.out⟩, ⟨by repeat (first | (with_reducible first | exact HB.out | apply below_alloc | apply pw_below_drewN | apply below_drew1 | refine below_set ?_ GE220.out) | exact HB.out)⟩⟩
     case round =>
      clear H'
      try clear c1
      try clear c2
      try clear p2
      try clear q2
      try clear hx2
      try clear qi2
      try clear c3
      try clear q3
      try clear c4
      try clear c5
      try clear p6
      try clear c8
      try clear c14
      try clear c15
      try clear c16
      try clear c17
      try clear c18
      try clear c19
      try clear p23
      try clear q23
      try clear hx23
      try clear qi23
      try clear c32
      try clear c32b0
      try clear c32b1
      try clear c33
      try clear c33b0
      try clear c33b1
      try clear c34
      try clear c34b0
      try clear c34b1
      try clear c35
      try clear c35b0
      try clear c35b1
      try clear c36
      try clear c36b0
      try clear c36b1
      try clear c37
      try clear c37b0
      try clear c37b1
      try clear q38
      try clear c39
      try clear c43
      try clear c43b0
      try clear c44
      try clear c44b0
      try clear c53
      try clear hcz22_0
      try clear hcz22_1
      try clear hcz22_2
      try clear hcz22_3
      try clear hcz25_0
      try clear hcz25_1
      try clear hcz25_2
      try clear hcz25_3
      try clear hcz28_0
      try clear hcz28_1
      try clear hcz28_2
      try clear hcz28_3
      try clear hcz30_0
      try clear hcz30_1
      try clear hcz30_2
      try clear hcz30_3
      try clear hcz41_0
      try clear hcz41_1
      try clear hcz41_2
      try clear hcz41_3
      try clear hcz46_0
      try clear hcz46_1
      try clear hcz46_2
      try clear hcz46_3
      try clear hcz49_0
      try clear hcz49_1
      try clear hcz49_2
      try clear hcz49_3
      try clear hcz52_0
      try clear hcz52_1
      try clear hcz52_2
      try clear hcz52_3
      try clear hfz22_0
      try clear hfz22_1
      try clear hfz22_2
      try clear hfz22_3
      try clear hfz25_0
      try clear hfz25_1
      try clear hfz25_2
      try clear hfz25_3
      try clear hfz28_0
      try clear hfz28_1
      try clear hfz28_2
      try clear hfz28_3
      try clear hfz30_0
      try clear hfz30_1
      try clear hfz30_2
      try clear hfz30_3
      try clear hfz41_0
      try clear hfz41_1
      try clear hfz41_2
      try clear hfz41_3
      try clear hfz46_0
      try clear hfz46_1
      try clear hfz46_2
      try clear hfz46_3
      try clear hfz49_0
      try clear hfz49_1
      try clear hfz49_2
      try clear hfz49_3
      try clear hfz52_0
      try clear hfz52_1
      try clear hfz52_2
      try clear hfz52_3
      try clear hx238_0
      try clear hx239_0
      try clear p2
      try clear p23
      try clear p238
      try clear p239
      try clear p6
      try clear q2
      try clear q23
      try clear q238
      try clear q239
      try clear q3
      try clear q38
      obtain ⟨x24_2, rfl, HA, HK2, HO_18, HO_20, HO_22, HO_221003, BK220, HB⟩ := hrel
      cases gk with
      | zero => exact absurd HA.out (by simp [racewaylaw6_ResidualReach.l0])
      | succ k2 =>
       (have H := HA.out);(clear HA);(simp only [racewaylaw6_ResidualReach.l0] at H)
       by_cases c54 : x24_2 ≤ t214
       ·(rw [if_pos c54] at H);(have c54b0 : decide (x24_2 ≤ t214) = true := decide_eq_true c54);(clear c54);(have HC55 := Aside0.mk H);(clear H);(have hcz56_0 : wr.cell? ⟨gb220, 0, none⟩ = some (.int .i64 t214) := (blk_cell BK220.out 0).trans rfl);(have hcz56_1 : wr.cell? ⟨gb220, 1, none⟩ = some (.int .i64 t215) := (blk_cell BK220.out 1).trans rfl);(have hcz56_2 : wr.cell? ⟨gb220, 2, none⟩ = some (.int .i64 t216) := (blk_cell BK220.out 2).trans rfl);(have hcz56_3 : wr.cell? ⟨gb220, 3, none⟩ = some (.slice Ao23 t217.length co23) := (blk_cell BK220.out 3).trans rfl);(have hfz56_0 := blk_frozen BK220.out 0);(have hfz56_1 := blk_frozen BK220.out 1);(have hfz56_2 := blk_frozen BK220.out 2);(have hfz56_3 := blk_frozen BK220.out 3)
        go_upto_region 16 with (fail)
        go_cut [127] (fun v127 wc => ∃ (kq : Nat) (x127_54 : Bool), v127 = .bool x127_54 ∧ Aside0 (racewaylaw6_ResidualReach.j2 kq (wrap64 (1 + (ji13))) t226 t230 t234 x24_2 x127_54 t214 t215 t216 t217 = some r) ∧ Aside0 (kq ≤ k2) ∧ Aside0 (Kd.R (Kd.int .i64) 2 wc w.heap.size (fun _ => True) v227 t226) ∧ Aside0 (Kd.R Kd.bool 4 wc w.heap.size (fun k_ => some k_ ≠ (v235 : Value).ownBlock) v231 t230) ∧ Aside0 (Kd.R Kd.bool 4 wc w.heap.size (fun k_ => some k_ ≠ (v231 : Value).ownBlock) v235 t234) ∧ Aside0 (Kd.R k49 49 wc w.heap.size (fun _ => True) (.slice Ao23 t217.length co23) t217) ∧ Aside0 (wc.heap[gb220]? = some (.cells #[.int .i64 t214, .int .i64 t215, .int .i64 t216, (.slice Ao23 t217.length co23)] 27 (0, 0))) ∧ Aside0 (Below w.heap.size w wc))
        case first =>
         (have H := HC55.out);(clear HC55)
         by_cases c57 : 0 ≤ x24_2
         ·(rw [if_pos c57] at H);(have c57b0 : decide (0 ≤ x24_2) = true := decide_eq_true c57);(clear c57);((first | rw [c57b0] | (simp only [i64_w, i32_w]; rw [c57b0]) | skip))
          by_cases c58 : x24_2 < (t234.length : Int)
          ·(rw [if_pos c58] at H);(have c58b0 : decide (x24_2 < (t234.length : Int)) = true := decide_eq_true c58);(clear c58);(obtain ⟨bq59, hbq59⟩ : ∃ b_ : Bool, b_ = (rdOf false t234 x24_2) := ⟨_, rfl⟩);(replace H : (if bq59 = true then (if x24_2 < (t230.length : Int) then (racewaylaw6_ResidualReach.j2 k2 (wrap64 (1 + (ji13))) t226 t230 t234 x24_2 (!(rdOf false t230 x24_2)) t214 t215 t216 t217) else (none)) else (racewaylaw6_ResidualReach.j2 k2 (wrap64 (1 + (ji13))) t226 t230 t234 x24_2 false t214 t215 t216 t217)) = some r := by rw [← hbq59] at H; exact H);(have Nbq59 := Aside0.mk hbq59);(clear hbq59)
           by_cases c60 : bq59 = true
           ·(subst c60);(have H1 : (if x24_2 < (t230.length : Int) then (racewaylaw6_ResidualReach.j2 k2 (wrap64 (1 + (ji13))) t226 t230 t234 x24_2 (!(rdOf false t230 x24_2)) t214 t215 t216 t217) else (none)) = some r := by rw [if_pos rfl] at H; exact H);(clear H);(have H := H1);(clear H1)
            by_cases c61 : x24_2 < (t230.length : Int)
            ·(rw [if_pos c61] at H);(have c61b0 : decide (x24_2 < (t230.length : Int)) = true := decide_eq_true c61);(clear c61)
             as_aux_lemma =>
              (have H' := Aside0.mk H);(clear H);(obtain ⟨Ao62, co62, eo62⟩ := Kd.R_slice HO_22.out);(subst eo62);(have p240 : 0 ≤ (x24_2 : Int) := of_decide_eq_true (by first | (with_reducible assumption) | assumption));(have q240 : x24_2 < (t234.length : Int) := of_decide_eq_true (by first | (with_reducible assumption) | assumption));(obtain ⟨ad240, e240, hx240_0⟩ := Kd.at_bool (Kd.R_reads' HO_22.out).2.2 x24_2 p240 q240);((try rw [← Nbq59.out] at hx240_0));(cases e240);(replace p240 := eq_true p240);(replace q240 := eq_true q240);(obtain ⟨Ao63, co63, eo63⟩ := Kd.R_slice HO_20.out);(subst eo63);(have p241 : 0 ≤ (x24_2 : Int) := of_decide_eq_true (by first | (with_reducible assumption) | assumption));(have q241 : x24_2 < (t230.length : Int) := of_decide_eq_true (by first | (with_reducible assumption) | assumption));(obtain ⟨ad241, e241, hx241_0⟩ := Kd.at_bool (Kd.R_reads' HO_20.out).2.2 x24_2 p241 q241);((try rw [← Nbq59.out] at hx241_0));(cases e241);(replace p241 := eq_true p241);(replace q241 := eq_true q241)
              go_wp2
              go_meet
              case rel => exact ⟨_, (!(rdOf false t230 x24_2)), (by first | rfl | (simp; done) | (simp [*]; done)), H', ⟨by have := HJ17.out; have := HK2.out; first | omega | exact Nat.le_refl _⟩, ⟨by (with_reducible repeat first | apply Kd.R_alloc | apply Kd.R_drewN | apply Kd.R_drew); exact HO_18.out⟩, ⟨by (with_reducible repeat first | apply Kd.R_alloc | apply Kd.R_drewN | apply Kd.R_drew); exact HO_20.out⟩, ⟨by (with_reducible repeat first | apply Kd.R_alloc | apply Kd.R_drewN | apply Kd.R_drew); exact HO_22.out⟩, ⟨by (with_reducible repeat first | apply Kd.R_alloc | apply Kd.R_drewN | apply Kd.R_drew); exact HO_221003.out⟩, ⟨by (with_reducible repeat first | refine blk_drewN ?_ _ | refine blk_drew ?_ | refine blk_alloc ?_ _); exact BK220.out⟩, ⟨by repeat (first | (with_reducible first | exact HB.out | apply below_alloc | apply pw_below_drewN | apply below_drew1 | refine below_set ?_ GE220.out) | exact HB.out)⟩⟩
            ·(rw [if_neg c61] at H);(exact absurd H (by simp))
           ·(replace c60 := Bool.eq_false_iff.mpr c60);(subst c60);(have H1 : (racewaylaw6_ResidualReach.j2 k2 (wrap64 (1 + (ji13))) t226 t230 t234 x24_2 false t214 t215 t216 t217) = some r := by rw [if_neg (show ¬ (false = true) by decide)] at H; exact H);(clear H);(have H := H1);(clear H1)
            as_aux_lemma =>
             (have H' := Aside0.mk H);(clear H);(obtain ⟨Ao64, co64, eo64⟩ := Kd.R_slice HO_22.out);(subst eo64);(have p240 : 0 ≤ (x24_2 : Int) := of_decide_eq_true (by first | (with_reducible assumption) | assumption));(have q240 : x24_2 < (t234.length : Int) := of_decide_eq_true (by first | (with_reducible assumption) | assumption));(obtain ⟨ad240, e240, hx240_0⟩ := Kd.at_bool (Kd.R_reads' HO_22.out).2.2 x24_2 p240 q240);((try rw [← Nbq59.out] at hx240_0));(cases e240);(replace p240 := eq_true p240);(replace q240 := eq_true q240)
             go_wp2
             go_meet
             case rel => exact ⟨_, (false), (by first | rfl | (simp; done) | (simp [*]; done)), H', ⟨by have := HJ17.out; have := HK2.out; first | omega | exact Nat.le_refl _⟩, ⟨by (with_reducible repeat first | apply Kd.R_alloc | apply Kd.R_drewN | apply Kd.R_drew); exact HO_18.out⟩, ⟨by (with_reducible repeat first | apply Kd.R_alloc | apply Kd.R_drewN | apply Kd.R_drew); exact HO_20.out⟩, ⟨by (with_reducible repeat first | apply Kd.R_alloc | apply Kd.R_drewN | apply Kd.R_drew); exact HO_22.out⟩, ⟨by (with_reducible repeat first | apply Kd.R_alloc | apply Kd.R_drewN | apply Kd.R_drew); exact HO_221003.out⟩, ⟨by (with_reducible repeat first | refine blk_drewN ?_ _ | refine blk_drew ?_ | refine blk_alloc ?_ _); exact BK220.out⟩, ⟨by repeat (first | (with_reducible first | exact HB.out | apply below_alloc | apply pw_below_drewN | apply below_drew1 | refine below_set ?_ GE220.out) | exact HB.out)⟩⟩
          ·(rw [if_neg c58] at H);(exact absurd H (by simp))
         ·(rw [if_neg c57] at H);(exact absurd H (by simp))
        case rest =>
         clear HC55
         try clear c1
         try clear c2
         try clear p2
         try clear q2
         try clear hx2
         try clear qi2
         try clear c3
         try clear q3
         try clear c4
         try clear c5
         try clear q5
         try clear c6
         try clear p6
         try clear c8
         try clear c14
         try clear c15
         try clear c16
         try clear c17
         try clear c18
         try clear c19
         try clear p23
         try clear q23
         try clear hx23
         try clear qi23
         try clear p24
         try clear q24
         try clear hx24
         try clear c32
         try clear c32b0
         try clear c32b1
         try clear c33
         try clear c33b0
         try clear c33b1
         try clear c34
         try clear c34b0
         try clear c34b1
         try clear c35
         try clear c35b0
         try clear c35b1
         try clear c36
         try clear c36b0
         try clear c36b1
         try clear c37
         try clear c37b0
         try clear c37b1
         try clear q38
         try clear c39
         try clear c43
         try clear c43b0
         try clear c44
         try clear c44b0
         try clear c53
         try clear c54
         try clear c54b0
         try clear c57
         try clear c57b0
         try clear c58
         try clear c58b0
         try clear q59
         try clear c60
         try clear c61
         try clear c61b0
         try clear p64
         try clear hcz22_0
         try clear hcz22_1
         try clear hcz22_2
         try clear hcz22_3
         try clear hcz25_0
         try clear hcz25_1
         try clear hcz25_2
         try clear hcz25_3
         try clear hcz28_0
         try clear hcz28_1
         try clear hcz28_2
         try clear hcz28_3
         try clear hcz30_0
         try clear hcz30_1
         try clear hcz30_2
         try clear hcz30_3
         try clear hcz41_0
         try clear hcz41_1
         try clear hcz41_2
         try clear hcz41_3
         try clear hcz46_0
         try clear hcz46_1
         try clear hcz46_2
         try clear hcz46_3
         try clear hcz49_0
         try clear hcz49_1
         try clear hcz49_2
         try clear hcz49_3
         try clear hcz52_0
         try clear hcz52_1
         try clear hcz52_2
         try clear hcz52_3
         try clear hcz56_0
         try clear hcz56_1
         try clear hcz56_2
         try clear hcz56_3
         try clear hfz22_0
         try clear hfz22_1
         try clear hfz22_2
         try clear hfz22_3
         try clear hfz25_0
         try clear hfz25_1
         try clear hfz25_2
         try clear hfz25_3
         try clear hfz28_0
         try clear hfz28_1
         try clear hfz28_2
         try clear hfz28_3
         try clear hfz30_0
         try clear hfz30_1
         try clear hfz30_2
         try clear hfz30_3
         try clear hfz41_0
         try clear hfz41_1
         try clear hfz41_2
         try clear hfz41_3
         try clear hfz46_0
         try clear hfz46_1
         try clear hfz46_2
         try clear hfz46_3
         try clear hfz49_0
         try clear hfz49_1
         try clear hfz49_2
         try clear hfz49_3
         try clear hfz52_0
         try clear hfz52_1
         try clear hfz52_2
         try clear hfz52_3
         try clear hfz56_0
         try clear hfz56_1
         try clear hfz56_2
         try clear hfz56_3
         try clear hx238_0
         try clear hx239_0
         try clear hx240_0
         try clear hx241_0
         try clear p2
         try clear p23
         try clear p238
         try clear p239
         try clear p240
         try clear p241
         try clear p6
         try clear q2
         try clear q23
         try clear q238
         try clear q239
         try clear q240
         try clear q241
         try clear q3
         try clear q38
         obtain ⟨kq, x127_54, rfl, HA, HJ54, HO_18, HO_20, HO_22, HO_221003, BK220, HB⟩ := hcut
         cases kq with
         | zero => exact absurd HA.out (by simp [racewaylaw6_ResidualReach.j2])
         | succ kj54 =>
          (have H := HA.out);(clear HA);(simp only [racewaylaw6_ResidualReach.j2] at H)
          by_cases c65 : x127_54 = true
          ·(subst c65);(have H1 : (some false) = some r := by rw [if_pos rfl] at H; exact H);(clear H);(have H := H1);(clear H1);(exact absurd ((Option.some.inj H).trans hrT_.out) (by simp))
          ·(replace c65 := Bool.eq_false_iff.mpr c65);(subst c65);(have H1 : ((residual_From.f kj54 t214 t215 t216 t217 x24_2).bind fun t242 => (racewaylaw6_ResidualReach.l1 kj54 (wrap64 (1 + (ji13))) t226 t230 t234 x24_2 (x24_2 == t215) t242 0 t214 t215 t216 t217)) = some r := by rw [if_neg (show ¬ (false = true) by decide)] at H; exact H);(clear H);(have H := H1);(clear H1);(replace H := Option.bind_eq_some_iff.mp H);(obtain ⟨t242, A660, H⟩ := H);(replace H : (racewaylaw6_ResidualReach.l1 kj54 (wrap64 (1 + (ji13))) t226 t230 t234 x24_2 (x24_2 == t215) t242 0 t214 t215 t216 t217) = some r := H);(have A66 := Aside0.mk A660);(clear A660);(have H' := Aside0.mk H);(clear H);(have hcz67_0 : wc.cell? ⟨gb220, 0, none⟩ = some (.int .i64 t214) := (blk_cell BK220.out 0).trans rfl);(have hcz67_1 : wc.cell? ⟨gb220, 1, none⟩ = some (.int .i64 t215) := (blk_cell BK220.out 1).trans rfl);(have hcz67_2 : wc.cell? ⟨gb220, 2, none⟩ = some (.int .i64 t216) := (blk_cell BK220.out 2).trans rfl);(have hcz67_3 : wc.cell? ⟨gb220, 3, none⟩ = some (.slice Ao23 t217.length co23) := (blk_cell BK220.out 3).trans rfl);(have hfz67_0 := blk_frozen BK220.out 0);(have hfz67_1 := blk_frozen BK220.out 1);(have hfz67_2 := blk_frozen BK220.out 2);(have hfz67_3 := blk_frozen BK220.out 3)
           go_wp2_with (first | ((with_reducible refine gate_callee (f := 20) rfl ?_); refine goesL_ (some 134) rfl rfl Try.func20 (by kernel_rfl) rfl #[.agg #[.int .i64 t214, .int .i64 t215, .int .i64 t216, .slice Ao23 t217.length co23], .int .i64 x24_2] rfl (by (try simp only [List.map_toArray, List.map_cons, List.map_nil]); first | done | rfl | (simp only [List.length_drop, List.length_take]; rfl)) ?_; (with_reducible refine (residual_From.calls kj54 t214 t215 t216 _ _ t217 x24_2 t242 _ ?side1 ?side2 A66.out).mono ?_); (case side1 => repeat (first | exact (Kd.R_reads' HO_221003.out).2.2 | (with_reducible refine Kd.C_alloc ?_ _) | (with_reducible refine Kd.C_drewN ?_ _) | (with_reducible refine Kd.C_drew ?_))); (case side2 => exact (Kd.R_reads' HO_221003.out).2.1); rintro e w68 ⟨v243, rfl, ho0, hb⟩; refine ⟨_, rfl, ?_⟩; have n0_ := Aside0.mk (Kd.R_below (by (with_reducible repeat first | apply Kd.R_alloc | apply Kd.R_drewN | apply Kd.R_drew); exact HO_18.out) hb); have n1_ := Aside0.mk (Kd.R_below (by (with_reducible repeat first | apply Kd.R_alloc | apply Kd.R_drewN | apply Kd.R_drew); exact HO_20.out) hb); have n2_ := Aside0.mk (Kd.R_below (by (with_reducible repeat first | apply Kd.R_alloc | apply Kd.R_drewN | apply Kd.R_drew); exact HO_22.out) hb); have n3_ := Aside0.mk (Kd.R_below (by (with_reducible repeat first | apply Kd.R_alloc | apply Kd.R_drewN | apply Kd.R_drew); exact HO_221003.out) hb); have n4_ := Aside0.mk (Kd.R_lower ho0 (below_size (by repeat (first | (with_reducible first | exact HB.out | apply below_alloc | apply pw_below_drewN | apply below_drew1 | refine below_set ?_ GE220.out) | exact HB.out)))); have n5_ := Aside0.mk (blk_below (g := gb220) (o := .cells #[.int .i64 t214, .int .i64 t215, .int .i64 t216, .slice Ao23 t217.length co23] 27 (0, 0)) (by (with_reducible repeat first | refine blk_drewN ?_ _ | refine blk_drew ?_ | refine blk_alloc ?_ _); exact BK220.out) hb); have n6_ := Aside0.mk (below_step (by repeat (first | (with_reducible first | exact HB.out | apply below_alloc | apply pw_below_drewN | apply below_drew1 | refine below_set ?_ GE220.out) | exact HB.out)) hb); clear HO_18; clear HO_20; clear HO_22; clear HO_221003; clear BK220; clear HB; have HO_18 := n0_; have HO_20 := n1_; have HO_22 := n2_; have HO_221003 := n3_; have HO244 := n4_; have BK220 := n5_; have HB := n6_; clear n0_ n1_ n2_ n3_ n4_ n5_ n6_; (try clear hb); (try clear hb2); (try clear hk); (try clear hi); (try clear ho0)))
           go_loopg [25, 27] kj54 (fun kq v25 v27 w' => ∃ (x25_4 : Bool) (x27_4 : Int), v25 = .bool x25_4 ∧ v27 = .int .i64 x27_4 ∧ Aside0 (racewaylaw6_ResidualReach.l1 kq (wrap64 (1 + (ji13))) t226 t230 t234 x24_2 x25_4 t242 x27_4 t214 t215 t216 t217 = some r) ∧ Aside0 (kq ≤ kj54) ∧ Aside0 (Kd.R (Kd.int .i64) 2 w' w.heap.size (fun _ => True) v227 t226) ∧ Aside0 (Kd.R Kd.bool 4 w' w.heap.size (fun k_ => some k_ ≠ (v235 : Value).ownBlock) v231 t230) ∧ Aside0 (Kd.R Kd.bool 4 w' w.heap.size (fun k_ => some k_ ≠ (v231 : Value).ownBlock) v235 t234) ∧ Aside0 (Kd.R (Kd.int .i64) 3 w' w.heap.size (fun _ => True) v243 t242) ∧ Aside0 (Kd.R k49 49 w' w.heap.size (fun _ => True) (.slice Ao23 t217.length co23) t217) ∧ Aside0 (w'.heap[gb220]? = some (.cells #[.int .i64 t214, .int .i64 t215, .int .i64 t216, (.slice Ao23 t217.length co23)] 27 (0, 0))) ∧ Aside0 (Below w.heap.size w w'))
           case atStart => exact ⟨((x24_2 == t215)), (0), (by first | rfl | (simp; done) | (simp [*]; done)), (by first | rfl | (simp; done) | (simp [*]; done)), H', ⟨Nat.le_refl _⟩, ⟨by (with_reducible repeat first | apply Kd.R_alloc | apply Kd.R_drewN | apply Kd.R_drew); exact HO_18.out⟩, ⟨by (with_reducible repeat first | apply Kd.R_alloc | apply Kd.R_drewN | apply Kd.R_drew); exact HO_20.out⟩, ⟨by (with_reducible repeat first | apply Kd.R_alloc | apply Kd.R_drewN | apply Kd.R_drew); exact HO_22.out⟩, ⟨by (with_reducible repeat first | apply Kd.R_alloc | apply Kd.R_drewN | apply Kd.R_drew); exact HO244.out⟩, ⟨by (with_reducible repeat first | apply Kd.R_alloc | apply Kd.R_drewN | apply Kd.R_drew); exact HO_221003.out⟩, ⟨by (with_reducible repeat first | refine blk_drewN ?_ _ | refine blk_drew ?_ | refine blk_alloc ?_ _); exact BK220.out⟩, ⟨by repeat (first | (with_reducible first | exact HB.out | apply below_alloc | apply pw_below_drewN | apply below_drew1 | refine below_set ?_ GE220.out) | exact HB.out)⟩⟩
           case round =>
            clear H'
            try clear c1
            try clear c2
            try clear p2
            try clear q2
            try clear hx2
            try clear qi2
            try clear c3
            try clear q3
            try clear c4
            try clear c5
            try clear q5
            try clear c6
            try clear p6
            try clear c8
            try clear c14
            try clear c15
            try clear c16
            try clear c17
            try clear c18
            try clear c19
            try clear c20
            try clear p23
            try clear q23
            try clear hx23
            try clear qi23
            try clear p24
            try clear q24
            try clear hx24
            try clear c32
            try clear c32b0
            try clear c32b1
            try clear c33
            try clear c33b0
            try clear c33b1
            try clear c34
            try clear c34b0
            try clear c34b1
            try clear c35
            try clear c35b0
            try clear c35b1
            try clear c36
            try clear c36b0
            try clear c36b1
            try clear c37
            try clear c37b0
            try clear c37b1
            try clear q38
            try clear c39
            try clear c43
            try clear c43b0
            try clear c44
            try clear c44b0
            try clear c53
            try clear c54
            try clear c54b0
            try clear c57
            try clear c57b0
            try clear c58
            try clear c58b0
            try clear q59
            try clear c60
            try clear c61
            try clear c61b0
            try clear p64
            try clear c65
            try clear hcz22_0
            try clear hcz22_1
            try clear hcz22_2
            try clear hcz22_3
            try clear hcz25_0
            try clear hcz25_1
            try clear hcz25_2
            try clear hcz25_3
            try clear hcz28_0
            try clear hcz28_1
            try clear hcz28_2
            try clear hcz28_3
            try clear hcz30_0
            try clear hcz30_1
            try clear hcz30_2
            try clear hcz30_3
            try clear hcz41_0
            try clear hcz41_1
            try clear hcz41_2
            try clear hcz41_3
            try clear hcz46_0
            try clear hcz46_1
            try clear hcz46_2
            try clear hcz46_3
            try clear hcz49_0
            try clear hcz49_1
            try clear hcz49_2
            try clear hcz49_3
            try clear hcz52_0
            try clear hcz52_1
            try clear hcz52_2
            try clear hcz52_3
            try clear hcz56_0
            try clear hcz56_1
            try clear hcz56_2
            try clear hcz56_3
            try clear hcz67_0
            try clear hcz67_1
            try clear hcz67_2
            try clear hcz67_3
            try clear hfz22_0
            try clear hfz22_1
            try clear hfz22_2
            try clear hfz22_3
            try clear hfz25_0
            try clear hfz25_1
            try clear hfz25_2
            try clear hfz25_3
            try clear hfz28_0
            try clear hfz28_1
            try clear hfz28_2
            try clear hfz28_3
            try clear hfz30_0
            try clear hfz30_1
            try clear hfz30_2
            try clear hfz30_3
            try clear hfz41_0
            try clear hfz41_1
            try clear hfz41_2
            try clear hfz41_3
            try clear hfz46_0
            try clear hfz46_1
            try clear hfz46_2
            try clear hfz46_3
            try clear hfz49_0
            try clear hfz49_1
            try clear hfz49_2
            try clear hfz49_3
            try clear hfz52_0
            try clear hfz52_1
            try clear hfz52_2
            try clear hfz52_3
            try clear hfz56_0
            try clear hfz56_1
            try clear hfz56_2
            try clear hfz56_3
            try clear hfz67_0
            try clear hfz67_1
            try clear hfz67_2
            try clear hfz67_3
            try clear hx238_0
            try clear hx239_0
            try clear hx240_0
            try clear hx241_0
            try clear p2
            try clear p23
            try clear p238
            try clear p239
            try clear p24
            try clear p240
            try clear p241
            try clear p6
            try clear p64
            try clear q2
            try clear q23
            try clear q238
            try clear q239
            try clear q24
            try clear q240
            try clear q241
            try clear q3
            try clear q38
            try clear q5
            try clear q59
            obtain ⟨x25_4, x27_4, rfl, rfl, HA, HK4, HO_18, HO_20, HO_22, HO_26, HO_221003, BK220, HB⟩ := hrel
            cases gk with
            | zero => exact absurd HA.out (by simp [racewaylaw6_ResidualReach.l1])
            | succ k4 =>
             (have H := HA.out);(clear HA);(simp only [racewaylaw6_ResidualReach.l1] at H)
             by_cases c69 : x27_4 < (t242.length : Int)
             ·(rw [if_pos c69] at H);(have c69b0 : decide (x27_4 < (t242.length : Int)) = true := decide_eq_true c69);(clear c69)
              by_cases c70 : 0 ≤ x27_4
              ·(rw [if_pos c70] at H);(have c70b0 : decide (0 ≤ x27_4) = true := decide_eq_true c70);(clear c70);(replace H := Option.bind_eq_some_iff.mp H);(obtain ⟨⟨t246, t247⟩, A710, H⟩ := H);(replace H : (if 0 ≤ x24_2 then (if x24_2 < (t230.length : Int) then (if rdOf false t230 x24_2 = true then (if 0 ≤ (rd t242 x27_4) then (if (rd t242 x27_4) < (t226.length : Int) then (if (rd t226 (rd t242 x27_4)) ≥ (wrap64 (1 + (ji13))) then (if 0 ≤ t247 then (if t247 < (t230.length : Int) then (if rdOf false t230 t247 = true then (if x25_4 = true then (racewaylaw6_ResidualReach.l1 k4 (wrap64 (1 + (ji13))) t226 t230 t234 x24_2 true t242 (wrap64 (x27_4 + 1)) t214 t215 t216 t217) else (if 0 ≤ (Go.bits .xor .i64 (rd t242 x27_4) 1) then (if (Go.bits .xor .i64 (rd t242 x27_4) 1) < (t226.length : Int) then (racewaylaw6_ResidualReach.l1 k4 (wrap64 (1 + (ji13))) t226 t230 t234 x24_2 (decide ((rd t226 (Go.bits .xor .i64 (rd t242 x27_4) 1)) ≥ (wrap64 (1 + (ji13))))) t242 (wrap64 (x27_4 + 1)) t214 t215 t216 t217) else (none)) else (none))) else (some false)) else (none)) else (none)) else (if x25_4 = true then (racewaylaw6_ResidualReach.l1 k4 (wrap64 (1 + (ji13))) t226 t230 t234 x24_2 true t242 (wrap64 (x27_4 + 1)) t214 t215 t216 t217) else (if 0 ≤ t247 then (if t247 < (t230.length : Int) then (if rdOf false t230 t247 = true then (if 0 ≤ (Go.bits .xor .i64 (rd t242 x27_4) 1) then (if (Go.bits .xor .i64 (rd t242 x27_4) 1) < (t226.length : Int) then (racewaylaw6_ResidualReach.l1 k4 (wrap64 (1 + (ji13))) t226 t230 t234 x24_2 (decide ((rd t226 (Go.bits .xor .i64 (rd t242 x27_4) 1)) ≥ (wrap64 (1 + (ji13))))) t242 (wrap64 (x27_4 + 1)) t214 t215 t216 t217) else (none)) else (none)) else (racewaylaw6_ResidualReach.l1 k4 (wrap64 (1 + (ji13))) t226 t230 t234 x24_2 false t242 (wrap64 (x27_4 + 1)) t214 t215 t216 t217)) else (none)) else (none)))) else (none)) else (none)) else (if x25_4 = true then (racewaylaw6_ResidualReach.l1 k4 (wrap64 (1 + (ji13))) t226 t230 t234 x24_2 true t242 (wrap64 (x27_4 + 1)) t214 t215 t216 t217) else (if 0 ≤ t247 then (if t247 < (t230.length : Int) then (if rdOf false t230 t247 = true then (if 0 ≤ (Go.bits .xor .i64 (rd t242 x27_4) 1) then (if (Go.bits .xor .i64 (rd t242 x27_4) 1) < (t226.length : Int) then (racewaylaw6_ResidualReach.l1 k4 (wrap64 (1 + (ji13))) t226 t230 t234 x24_2 (decide ((rd t226 (Go.bits .xor .i64 (rd t242 x27_4) 1)) ≥ (wrap64 (1 + (ji13))))) t242 (wrap64 (x27_4 + 1)) t214 t215 t216 t217) else (none)) else (none)) else (racewaylaw6_ResidualReach.l1 k4 (wrap64 (1 + (ji13))) t226 t230 t234 x24_2 false t242 (wrap64 (x27_4 + 1)) t214 t215 t216 t217)) else (none)) else (none)))) else (none)) else (none)) = some r := H);(have A71 := Aside0.mk A710);(clear A710)
               by_cases c72 : 0 ≤ x24_2
               ·(rw [if_pos c72] at H);(have c72b0 : decide (0 ≤ x24_2) = true := decide_eq_true c72);(clear c72)
                by_cases c73 : x24_2 < (t230.length : Int)
                ·(rw [if_pos c73] at H);(have c73b0 : decide (x24_2 < (t230.length : Int)) = true := decide_eq_true c73);(clear c73);(obtain ⟨bq74, hbq74⟩ : ∃ b_ : Bool, b_ = (rdOf false t230 x24_2) := ⟨_, rfl⟩);(replace H : (if bq74 = true then (if 0 ≤ (rd t242 x27_4) then (if (rd t242 x27_4) < (t226.length : Int) then (if (rd t226 (rd t242 x27_4)) ≥ (wrap64 (1 + (ji13))) then (if 0 ≤ t247 then (if t247 < (t230.length : Int) then (if rdOf false t230 t247 = true then (if x25_4 = true then (racewaylaw6_ResidualReach.l1 k4 (wrap64 (1 + (ji13))) t226 t230 t234 x24_2 true t242 (wrap64 (x27_4 + 1)) t214 t215 t216 t217) else (if 0 ≤ (Go.bits .xor .i64 (rd t242 x27_4) 1) then (if (Go.bits .xor .i64 (rd t242 x27_4) 1) < (t226.length : Int) then (racewaylaw6_ResidualReach.l1 k4 (wrap64 (1 + (ji13))) t226 t230 t234 x24_2 (decide ((rd t226 (Go.bits .xor .i64 (rd t242 x27_4) 1)) ≥ (wrap64 (1 + (ji13))))) t242 (wrap64 (x27_4 + 1)) t214 t215 t216 t217) else (none)) else (none))) else (some false)) else (none)) else (none)) else (if x25_4 = true then (racewaylaw6_ResidualReach.l1 k4 (wrap64 (1 + (ji13))) t226 t230 t234 x24_2 true t242 (wrap64 (x27_4 + 1)) t214 t215 t216 t217) else (if 0 ≤ t247 then (if t247 < (t230.length : Int) then (if rdOf false t230 t247 = true then (if 0 ≤ (Go.bits .xor .i64 (rd t242 x27_4) 1) then (if (Go.bits .xor .i64 (rd t242 x27_4) 1) < (t226.length : Int) then (racewaylaw6_ResidualReach.l1 k4 (wrap64 (1 + (ji13))) t226 t230 t234 x24_2 (decide ((rd t226 (Go.bits .xor .i64 (rd t242 x27_4) 1)) ≥ (wrap64 (1 + (ji13))))) t242 (wrap64 (x27_4 + 1)) t214 t215 t216 t217) else (none)) else (none)) else (racewaylaw6_ResidualReach.l1 k4 (wrap64 (1 + (ji13))) t226 t230 t234 x24_2 false t242 (wrap64 (x27_4 + 1)) t214 t215 t216 t217)) else (none)) else (none)))) else (none)) else (none)) else (if x25_4 = true then (racewaylaw6_ResidualReach.l1 k4 (wrap64 (1 + (ji13))) t226 t230 t234 x24_2 true t242 (wrap64 (x27_4 + 1)) t214 t215 t216 t217) else (if 0 ≤ t247 then (if t247 < (t230.length : Int) then (if rdOf false t230 t247 = true then (if 0 ≤ (Go.bits .xor .i64 (rd t242 x27_4) 1) then (if (Go.bits .xor .i64 (rd t242 x27_4) 1) < (t226.length : Int) then (racewaylaw6_ResidualReach.l1 k4 (wrap64 (1 + (ji13))) t226 t230 t234 x24_2 (decide ((rd t226 (Go.bits .xor .i64 (rd t242 x27_4) 1)) ≥ (wrap64 (1 + (ji13))))) t242 (wrap64 (x27_4 + 1)) t214 t215 t216 t217) else (none)) else (none)) else (racewaylaw6_ResidualReach.l1 k4 (wrap64 (1 + (ji13))) t226 t230 t234 x24_2 false t242 (wrap64 (x27_4 + 1)) t214 t215 t216 t217)) else (none)) else (none)))) = some r := by rw [← hbq74] at H; exact H);(have Nbq74 := Aside0.mk hbq74);(clear hbq74)
                 by_cases c75 : bq74 = true
                 ·(subst c75);(have H1 : (if 0 ≤ (rd t242 x27_4) then (if (rd t242 x27_4) < (t226.length : Int) then (if (rd t226 (rd t242 x27_4)) ≥ (wrap64 (1 + (ji13))) then (if 0 ≤ t247 then (if t247 < (t230.length : Int) then (if rdOf false t230 t247 = true then (if x25_4 = true then (racewaylaw6_ResidualReach.l1 k4 (wrap64 (1 + (ji13))) t226 t230 t234 x24_2 true t242 (wrap64 (x27_4 + 1)) t214 t215 t216 t217) else (if 0 ≤ (Go.bits .xor .i64 (rd t242 x27_4) 1) then (if (Go.bits .xor .i64 (rd t242 x27_4) 1) < (t226.length : Int) then (racewaylaw6_ResidualReach.l1 k4 (wrap64 (1 + (ji13))) t226 t230 t234 x24_2 (decide ((rd t226 (Go.bits .xor .i64 (rd t242 x27_4) 1)) ≥ (wrap64 (1 + (ji13))))) t242 (wrap64 (x27_4 + 1)) t214 t215 t216 t217) else (none)) else (none))) else (some false)) else (none)) else (none)) else (if x25_4 = true then (racewaylaw6_ResidualReach.l1 k4 (wrap64 (1 + (ji13))) t226 t230 t234 x24_2 true t242 (wrap64 (x27_4 + 1)) t214 t215 t216 t217) else (if 0 ≤ t247 then (if t247 < (t230.length : Int) then (if rdOf false t230 t247 = true then (if 0 ≤ (Go.bits .xor .i64 (rd t242 x27_4) 1) then (if (Go.bits .xor .i64 (rd t242 x27_4) 1) < (t226.length : Int) then (racewaylaw6_ResidualReach.l1 k4 (wrap64 (1 + (ji13))) t226 t230 t234 x24_2 (decide ((rd t226 (Go.bits .xor .i64 (rd t242 x27_4) 1)) ≥ (wrap64 (1 + (ji13))))) t242 (wrap64 (x27_4 + 1)) t214 t215 t216 t217) else (none)) else (none)) else (racewaylaw6_ResidualReach.l1 k4 (wrap64 (1 + (ji13))) t226 t230 t234 x24_2 false t242 (wrap64 (x27_4 + 1)) t214 t215 t216 t217)) else (none)) else (none)))) else (none)) else (none)) = some r := by rw [if_pos rfl] at H; exact H);(clear H);(have H := H1);(clear H1)
                  by_cases c76 : 0 ≤ (rd t242 x27_4)
                  ·(rw [if_pos c76] at H);(have c76b0 : decide (0 ≤ (rd t242 x27_4)) = true := decide_eq_true c76);(clear c76)
                   by_cases c77 : (rd t242 x27_4) < (t226.length : Int)
                   ·(rw [if_pos c77] at H);(have c77b0 : decide ((rd t242 x27_4) < (t226.length : Int)) = true := decide_eq_true c77);(clear c77)
                    by_cases c78 : (rd t226 (rd t242 x27_4)) ≥ (wrap64 (1 + (ji13)))
                    ·(rw [if_pos c78] at H);(have c78b0 : decide ((wrap64 (1 + (ji13))) ≤ (rd t226 (rd t242 x27_4))) = true := decide_eq_true c78);(clear c78)
                     by_cases c79 : 0 ≤ t247
                     ·(rw [if_pos c79] at H);(have c79b0 : decide (0 ≤ t247) = true := decide_eq_true c79);(clear c79)
                      by_cases c80 : t247 < (t230.length : Int)
                      ·(rw [if_pos c80] at H);(have c80b0 : decide (t247 < (t230.length : Int)) = true := decide_eq_true c80);(clear c80);(obtain ⟨bq81, hbq81⟩ : ∃ b_ : Bool, b_ = (rdOf false t230 t247) := ⟨_, rfl⟩);(replace H : (if bq81 = true then (if x25_4 = true then (racewaylaw6_ResidualReach.l1 k4 (wrap64 (1 + (ji13))) t226 t230 t234 x24_2 true t242 (wrap64 (x27_4 + 1)) t214 t215 t216 t217) else (if 0 ≤ (Go.bits .xor .i64 (rd t242 x27_4) 1) then (if (Go.bits .xor .i64 (rd t242 x27_4) 1) < (t226.length : Int) then (racewaylaw6_ResidualReach.l1 k4 (wrap64 (1 + (ji13))) t226 t230 t234 x24_2 (decide ((rd t226 (Go.bits .xor .i64 (rd t242 x27_4) 1)) ≥ (wrap64 (1 + (ji13))))) t242 (wrap64 (x27_4 + 1)) t214 t215 t216 t217) else (none)) else (none))) else (some false)) = some r := by rw [← hbq81] at H; exact H);(have Nbq81 := Aside0.mk hbq81);(clear hbq81)
                       by_cases c82 : bq81 = true
                       ·(subst c82);(have H1 : (if x25_4 = true then (racewaylaw6_ResidualReach.l1 k4 (wrap64 (1 + (ji13))) t226 t230 t234 x24_2 true t242 (wrap64 (x27_4 + 1)) t214 t215 t216 t217) else (if 0 ≤ (Go.bits .xor .i64 (rd t242 x27_4) 1) then (if (Go.bits .xor .i64 (rd t242 x27_4) 1) < (t226.length : Int) then (racewaylaw6_ResidualReach.l1 k4 (wrap64 (1 + (ji13))) t226 t230 t234 x24_2 (decide ((rd t226 (Go.bits .xor .i64 (rd t242 x27_4) 1)) ≥ (wrap64 (1 + (ji13))))) t242 (wrap64 (x27_4 + 1)) t214 t215 t216 t217) else (none)) else (none))) = some r := by rw [if_pos rfl] at H; exact H);(clear H);(have H := H1);(clear H1)
                        by_cases c83 : x25_4 = true
                        ·(subst c83);(have H1 : (racewaylaw6_ResidualReach.l1 k4 (wrap64 (1 + (ji13))) t226 t230 t234 x24_2 true t242 (wrap64 (x27_4 + 1)) t214 t215 t216 t217) = some r := by rw [if_pos rfl] at H; exact H);(clear H);(have H := H1);(clear H1)
                         as_aux_lemma =>
                          (have H' := Aside0.mk H);(clear H);(obtain ⟨Ao84, co84, eo84⟩ := Kd.R_slice HO_26.out);(subst eo84)
                          try go_wp2
                          (have n0_ := Aside0.mk (Kd.R_drew HO_18.out));(have n1_ := Aside0.mk (Kd.R_drew HO_20.out));(have n2_ := Aside0.mk (Kd.R_drew HO_22.out));(have n3_ := Aside0.mk (Kd.R_drew HO_26.out));(have n4_ := Aside0.mk (Kd.R_drew HO_221003.out));(have n5_ := Aside0.mk (blk_drew BK220.out));(have n6_ := Aside0.mk (below_drew1 HB.out));(clear HO_18);(clear HO_20);(clear HO_22);(clear HO_26);(clear HO_221003);(clear BK220);(clear HB);(have HO_18 := n0_);(have HO_20 := n1_);(have HO_22 := n2_);(have HO_26 := n3_);(have HO_221003 := n4_);(have BK220 := n5_);(have HB := n6_);(clear n0_ n1_ n2_ n3_ n4_ n5_ n6_);(have p245 : 0 ≤ (x27_4 : Int) := of_decide_eq_true (by first | (with_reducible assumption) | assumption));(have q245 : x27_4 < (t242.length : Int) := of_decide_eq_true (by first | (with_reducible assumption) | assumption));(obtain ⟨ad245, e245, hx245_0⟩ := Kd.at_int (Kd.R_reads' HO_26.out).2.2 x27_4 p245 q245);(cases e245);(replace p245 := eq_true p245);(replace q245 := eq_true q245);(refine start_ (n := 11) (S := fun w' => w'.cell? ⟨gb220, 0, none⟩ = some (.int .i64 t214) ∧ w'.cell? ⟨gb220, 1, none⟩ = some (.int .i64 t215) ∧ w'.cell? ⟨gb220, 2, none⟩ = some (.int .i64 t216) ∧ w'.cell? ⟨gb220, 3, none⟩ = some (.slice Ao23 t217.length co23) ∧ w'.cell? (ad245.add (x27_4).toNat) = some (.int .i64 (rd t242 x27_4))) (ds := []) #[false, false, false, false, false, false, false, false, false, false, false] (by kernel_rfl) rfl rfl ⟨(blk_cell BK220.out 0).trans rfl, (blk_cell BK220.out 1).trans rfl, (blk_cell BK220.out 2).trans rfl, (blk_cell BK220.out 3).trans rfl, hx245_0⟩ (fun hHeld => ?_); refine with_tabW racewaylaw6_ResidualReach.tab23 racewaylaw6_ResidualReach.bits23 (fun HT_ HW_ => ?_));(generalize wr.drew = w85 at HO_18 HO_20 HO_22 HO_26 HO_221003 BK220 HB hx245_0 hHeld ⊢);(refine pure_ (i := 1) (N := some 143) (v := ?_) (a' := ?_) #[false, true, false, false, false, false, false, false, false, false, false] rfl rfl (any_of HT_.out (by kernel_rfl)) (fun _ _ _ h => h) (Or.inl ⟨by rfl, ?_⟩) ?_ ?_)
                          rotate_left
                          ·intro w'
                           go_simp
                           with_reducible rfl
                          rotate_left
                          ·simp only [Act.put, List.setIfInBounds_toArray, List.set_cons_zero, List.set_cons_succ, i64_w, i32_w]
                           rfl
                          refine pure_ (i := 2) (N := some 144) (v := ?_) (a' := ?_) #[false, true, true, false, false, false, false, false, false, false, false] rfl rfl (any_of HT_.out (by kernel_rfl)) (fun _ _ _ h => h) (Or.inl ⟨by rfl, ?_⟩) ?_ ?_
                          rotate_left
                          ·intro w'
                           go_simp
                           with_reducible rfl
                          rotate_left
                          ·simp only [Act.put, List.setIfInBounds_toArray, List.set_cons_zero, List.set_cons_succ, i64_w, i32_w]
                           rfl
                          refine pure_ (i := 3) (N := some 145) (v := ?_) (a' := ?_) #[false, true, true, true, false, false, false, false, false, false, false] rfl rfl (any_of HT_.out (by kernel_rfl)) (fun _ _ _ h => h) (Or.inl ⟨by rfl, ?_⟩) ?_ ?_
                          rotate_left
                          ·intro w'
                           go_simp
                           with_reducible rfl
                          rotate_left
                          ·simp only [Act.put, List.setIfInBounds_toArray, List.set_cons_zero, List.set_cons_succ, i64_w, i32_w]
                           rfl
                          refine take_ (i := 0) (N := some 142) (v := ?_) (a' := ?_) #[true, true, true, true, false, false, false, false, false, false, false] rfl rfl (take_ofW HT_.out HW_.out (by kernel_rfl)) (fun _ _ _ h => h) (Or.inl ⟨by rfl, ?_⟩) hHeld ?_ ?_
                          rotate_left
                          ·rintro w' ⟨s0, s1, s2, s3, s4⟩
                           go_simp
                           with_reducible rfl
                          rotate_left
                          ·simp only [Act.put, List.setIfInBounds_toArray, List.set_cons_zero, List.set_cons_succ, i64_w, i32_w]
                           rfl
                          refine take_ (i := 4) (N := some 146) (v := ?_) (a' := ?_) #[true, true, true, true, true, false, false, false, false, false, false] rfl rfl (take_ofW HT_.out HW_.out (by kernel_rfl)) (fun _ _ _ h => h) (Or.inl ⟨by rfl, ?_⟩) hHeld ?_ ?_
                          rotate_left
                          ·rintro w' ⟨s0, s1, s2, s3, s4⟩
                           go_simp
                           with_reducible rfl
                          rotate_left
                          ·simp only [Act.put, List.setIfInBounds_toArray, List.set_cons_zero, List.set_cons_succ, i64_w, i32_w]
                           rfl
                          (refine one_ (i := 5) (N := some 147) #[true, true, true, true, true, true, false, false, false, false, false] rfl rfl (one_of HT_.out (by kernel_rfl)) (by decide) (fun K hK => ?_));(refine goes_ Try.func21 (by kernel_rfl) rfl #[.agg #[.int .i64 t214, .int .i64 t215, .int .i64 t216, .slice Ao23 t217.length co23], .int .i64 (rd t242 x27_4)] (by rfl) rfl rfl (by (try simp only [List.map_toArray, List.map_cons, List.map_nil]); first | done | rfl | (simp only [List.length_drop, List.length_take]; rfl)) ?_)
                          with_reducible refine (residual_Ends.calls k4 t214 t215 t216 _ _ t217 (rd t242 x27_4) t246 t247 _ ?side1 ?side2 A71.out).mono ?_
                          (case side1 => repeat (first | exact (Kd.R_reads' HO_221003.out).2.2 | (with_reducible refine Kd.C_alloc ?_ _) | (with_reducible refine Kd.C_drewN ?_ _) | (with_reducible refine Kd.C_drew ?_)))
                          (case side2 => exact (Kd.R_reads' HO_221003.out).2.1)
                          (rintro e w86 ⟨rfl, hb⟩);(have HS4_ := (hb.cell (World.block_lt_of_cell? _ _ (hHeld.2.2.2.2))).trans (hHeld.2.2.2.2));(refine ⟨_, rfl, ?_⟩);(have n0_ := Aside0.mk (Kd.R_below (by (with_reducible repeat first | apply Kd.R_alloc | apply Kd.R_drewN | apply Kd.R_drew); exact HO_18.out) hb));(have n1_ := Aside0.mk (Kd.R_below (by (with_reducible repeat first | apply Kd.R_alloc | apply Kd.R_drewN | apply Kd.R_drew); exact HO_20.out) hb));(have n2_ := Aside0.mk (Kd.R_below (by (with_reducible repeat first | apply Kd.R_alloc | apply Kd.R_drewN | apply Kd.R_drew); exact HO_22.out) hb));(have n3_ := Aside0.mk (Kd.R_below (by (with_reducible repeat first | apply Kd.R_alloc | apply Kd.R_drewN | apply Kd.R_drew); exact HO_26.out) hb));(have n4_ := Aside0.mk (Kd.R_below (by (with_reducible repeat first | apply Kd.R_alloc | apply Kd.R_drewN | apply Kd.R_drew); exact HO_221003.out) hb));(have n5_ := Aside0.mk (blk_below (g := gb220) (o := .cells #[.int .i64 t214, .int .i64 t215, .int .i64 t216, .slice Ao23 t217.length co23] 27 (0, 0)) (by (with_reducible repeat first | refine blk_drewN ?_ _ | refine blk_drew ?_ | refine blk_alloc ?_ _); exact BK220.out) hb));(have n6_ := Aside0.mk (below_step (by repeat (first | (with_reducible first | exact HB.out | apply below_alloc | apply pw_below_drewN | apply below_drew1 | refine below_set ?_ GE220.out) | exact HB.out)) hb));(clear HO_18);(clear HO_20);(clear HO_22);(clear HO_26);(clear HO_221003);(clear BK220);(clear HB);(have HO_18 := n0_);(have HO_20 := n1_);(have HO_22 := n2_);(have HO_26 := n3_);(have HO_221003 := n4_);(have BK220 := n5_);(have HB := n6_);(clear n0_ n1_ n2_ n3_ n4_ n5_ n6_);((try clear hb));((try clear hb2));((try clear hk));((try clear hi));(refine hK.out _ _ ⟨(blk_cell BK220.out 0).trans rfl, (blk_cell BK220.out 1).trans rfl, (blk_cell BK220.out 2).trans rfl, (blk_cell BK220.out 3).trans rfl, HS4_⟩ (fun hHeld => ?_));(clear hK K);(refine norm_ (a' := ?_) ?_ ?_)
                          rotate_left
                          ·show Act.put _ (some 147) _ = _
                           simp only [Act.put, List.setIfInBounds_toArray, List.set_cons_zero, List.set_cons_succ, i64_w, i32_w]
                           rfl
                          refine pure_ (i := 6) (N := some 141) (v := ?_) (a' := ?_) #[true, true, true, true, true, true, true, false, false, false, false] rfl rfl (any_of HT_.out (by kernel_rfl)) (fun _ _ _ h => h) (Or.inl ⟨by rfl, ?_⟩) ?_ ?_
                          rotate_left
                          ·intro w'
                           go_simp
                           with_reducible rfl
                          rotate_left
                          ·simp only [Act.put, List.setIfInBounds_toArray, List.set_cons_zero, List.set_cons_succ, i64_w, i32_w]
                           rfl
                          refine pure_ (i := 7) (N := some 148) (v := ?_) (a' := ?_) #[true, true, true, true, true, true, true, true, false, false, false] rfl rfl (any_of HT_.out (by kernel_rfl)) (fun _ _ _ h => h) (Or.inl ⟨by rfl, ?_⟩) ?_ ?_
                          rotate_left
                          ·intro w'
                           go_simp
                           with_reducible rfl
                          rotate_left
                          ·simp only [Act.put, List.setIfInBounds_toArray, List.set_cons_zero, List.set_cons_succ, i64_w, i32_w]
                           rfl
                          refine pure_ (i := 8) (N := some 149) (v := ?_) (a' := ?_) #[true, true, true, true, true, true, true, true, true, false, false] rfl rfl (any_of HT_.out (by kernel_rfl)) (fun _ _ _ h => h) (Or.inl ⟨by rfl, ?_⟩) ?_ ?_
                          rotate_left
                          ·intro w'
                           go_simp
                           with_reducible rfl
                          rotate_left
                          ·simp only [Act.put, List.setIfInBounds_toArray, List.set_cons_zero, List.set_cons_succ, i64_w, i32_w]
                           rfl
                          refine pure_ (i := 9) (N := some 28) (v := ?_) (a' := ?_) #[true, true, true, true, true, true, true, true, true, true, false] rfl rfl (any_of HT_.out (by kernel_rfl)) (fun _ _ _ h => h) (Or.inl ⟨by rfl, ?_⟩) ?_ ?_
                          rotate_left
                          ·intro w'
                           go_simp
                           with_reducible rfl
                          rotate_left
                          ·simp only [Act.put, List.setIfInBounds_toArray, List.set_cons_zero, List.set_cons_succ, i64_w, i32_w]
                           rfl
                          refine pure_ (i := 10) (N := some 29) (v := ?_) (a' := ?_) #[true, true, true, true, true, true, true, true, true, true, true] rfl rfl (any_of HT_.out (by kernel_rfl)) (fun _ _ _ h => h) (Or.inl ⟨by rfl, ?_⟩) ?_ ?_
                          rotate_left
                          ·intro w'
                           go_simp
                           with_reducible rfl
                          rotate_left
                          ·simp only [Act.put, List.setIfInBounds_toArray, List.set_cons_zero, List.set_cons_succ, i64_w, i32_w]
                           rfl
                          (refine done_ (done_of HT_.out (by kernel_rfl)) ?_);(obtain ⟨Ao87, co87, eo87⟩ := Kd.R_slice HO_20.out);(subst eo87);(have p248 : 0 ≤ (x24_2 : Int) := of_decide_eq_true (by first | (with_reducible assumption) | assumption));(have q248 : x24_2 < (t230.length : Int) := of_decide_eq_true (by first | (with_reducible assumption) | assumption));(obtain ⟨ad248, e248, hx248_0⟩ := Kd.at_bool (Kd.R_reads' HO_20.out).2.2 x24_2 p248 q248);((try rw [← Nbq74.out] at hx248_0));((try rw [← Nbq81.out] at hx248_0));(cases e248);(replace p248 := eq_true p248);(replace q248 := eq_true q248);(have p249 : 0 ≤ (x27_4 : Int) := of_decide_eq_true (by first | (with_reducible assumption) | assumption));(have q249 : x27_4 < (t242.length : Int) := of_decide_eq_true (by first | (with_reducible assumption) | assumption));(obtain ⟨ad249, e249, hx249_0⟩ := Kd.at_int (Kd.R_reads' HO_26.out).2.2 x27_4 p249 q249);(obtain rfl : ad245 = ad249 := (by injection e249));(replace p249 := eq_true p249);(replace q249 := eq_true q249);(obtain ⟨Ao88, co88, eo88⟩ := Kd.R_slice HO_18.out);(subst eo88);(have p250 : 0 ≤ ((rd t242 x27_4) : Int) := of_decide_eq_true (by first | (with_reducible assumption) | assumption));(have q250 : (rd t242 x27_4) < (t226.length : Int) := of_decide_eq_true (by first | (with_reducible assumption) | assumption));(obtain ⟨ad250, e250, hx250_0⟩ := Kd.at_int (Kd.R_reads' HO_18.out).2.2 (rd t242 x27_4) p250 q250);(cases e250);(replace p250 := eq_true p250);(replace q250 := eq_true q250);(have p251 : 0 ≤ (t247 : Int) := of_decide_eq_true (by first | (with_reducible assumption) | assumption));(have q251 : t247 < (t230.length : Int) := of_decide_eq_true (by first | (with_reducible assumption) | assumption));(obtain ⟨ad251, e251, hx251_0⟩ := Kd.at_bool (Kd.R_reads' HO_20.out).2.2 t247 p251 q251);((try rw [← Nbq74.out] at hx251_0));((try rw [← Nbq81.out] at hx251_0));(obtain rfl : ad248 = ad251 := (by injection e251));(replace p251 := eq_true p251);(replace q251 := eq_true q251)
                          try go_wp2
                          go_roundg k4
                          case measure => have := HJ17.out; have := HK2.out; have := HJ54.out; have := HK4.out; omega
                          case rel => exact ⟨(true), (wrap64 (x27_4 + 1)), (by first | rfl | (simp; done) | (simp [*]; done)), (by first | rfl | (simp; done) | (simp [*]; done)), H', ⟨by have := HJ17.out; have := HK2.out; have := HJ54.out; have := HK4.out; omega⟩, ⟨by (with_reducible repeat first | apply Kd.R_alloc | apply Kd.R_drewN | apply Kd.R_drew); exact HO_18.out⟩, ⟨by (with_reducible repeat first | apply Kd.R_alloc | apply Kd.R_drewN | apply Kd.R_drew); exact HO_20.out⟩, ⟨by (with_reducible repeat first | apply Kd.R_alloc | apply Kd.R_drewN | apply Kd.R_drew); exact HO_22.out⟩, ⟨by (with_reducible repeat first | apply Kd.R_alloc | apply Kd.R_drewN | apply Kd.R_drew); exact HO_26.out⟩, ⟨by (with_reducible repeat first | apply Kd.R_alloc | apply Kd.R_drewN | apply Kd.R_drew); exact HO_221003.out⟩, ⟨by (with_reducible repeat first | refine blk_drewN ?_ _ | refine blk_drew ?_ | refine blk_alloc ?_ _); exact BK220.out⟩, ⟨by repeat (first | (with_reducible first | exact HB.out | apply below_alloc | apply pw_below_drewN | apply below_drew1 | refine below_set ?_ GE220.out) | exact HB.out)⟩⟩
                        ·(replace c83 := Bool.eq_false_iff.mpr c83);(subst c83);(have H1 : (if 0 ≤ (Go.bits .xor .i64 (rd t242 x27_4) 1) then (if (Go.bits .xor .i64 (rd t242 x27_4) 1) < (t226.length : Int) then (racewaylaw6_ResidualReach.l1 k4 (wrap64 (1 + (ji13))) t226 t230 t234 x24_2 (decide ((rd t226 (Go.bits .xor .i64 (rd t242 x27_4) 1)) ≥ (wrap64 (1 + (ji13))))) t242 (wrap64 (x27_4 + 1)) t214 t215 t216 t217) else (none)) else (none)) = some r := by rw [if_neg (show ¬ (false = true) by decide)] at H; exact H);(clear H);(have H := H1);(clear H1)
                         by_cases c89 : 0 ≤ (Go.bits .xor .i64 (rd t242 x27_4) 1)
                         ·(rw [if_pos c89] at H);(have c89b0 : decide (0 ≤ (Go.bits .xor .i64 (rd t242 x27_4) 1)) = true := decide_eq_true c89);(clear c89)
                          by_cases c90 : (Go.bits .xor .i64 (rd t242 x27_4) 1) < (t226.length : Int)
                          ·(rw [if_pos c90] at H);(have c90b0 : decide ((Go.bits .xor .i64 (rd t242 x27_4) 1) < (t226.length : Int)) = true := decide_eq_true c90);(clear c90)
                           as_aux_lemma =>
                            (have H' := Aside0.mk H);(clear H);(obtain ⟨Ao91, co91, eo91⟩ := Kd.R_slice HO_26.out);(subst eo91)
                            try go_wp2
                            (have n0_ := Aside0.mk (Kd.R_drew HO_18.out));(have n1_ := Aside0.mk (Kd.R_drew HO_20.out));(have n2_ := Aside0.mk (Kd.R_drew HO_22.out));(have n3_ := Aside0.mk (Kd.R_drew HO_26.out));(have n4_ := Aside0.mk (Kd.R_drew HO_221003.out));(have n5_ := Aside0.mk (blk_drew BK220.out));(have n6_ := Aside0.mk (below_drew1 HB.out));(clear HO_18);(clear HO_20);(clear HO_22);(clear HO_26);(clear HO_221003);(clear BK220);(clear HB);(have HO_18 := n0_);(have HO_20 := n1_);(have HO_22 := n2_);(have HO_26 := n3_);(have HO_221003 := n4_);(have BK220 := n5_);(have HB := n6_);(clear n0_ n1_ n2_ n3_ n4_ n5_ n6_);(have p245 : 0 ≤ (x27_4 : Int) := of_decide_eq_true (by first | (with_reducible assumption) | assumption));(have q245 : x27_4 < (t242.length : Int) := of_decide_eq_true (by first | (with_reducible assumption) | assumption));(obtain ⟨ad245, e245, hx245_0⟩ := Kd.at_int (Kd.R_reads' HO_26.out).2.2 x27_4 p245 q245);(cases e245);(replace p245 := eq_true p245);(replace q245 := eq_true q245);(refine start_ (n := 11) (S := fun w' => w'.cell? ⟨gb220, 0, none⟩ = some (.int .i64 t214) ∧ w'.cell? ⟨gb220, 1, none⟩ = some (.int .i64 t215) ∧ w'.cell? ⟨gb220, 2, none⟩ = some (.int .i64 t216) ∧ w'.cell? ⟨gb220, 3, none⟩ = some (.slice Ao23 t217.length co23) ∧ w'.cell? (ad245.add (x27_4).toNat) = some (.int .i64 (rd t242 x27_4))) (ds := []) #[false, false, false, false, false, false, false, false, false, false, false] (by kernel_rfl) rfl rfl ⟨(blk_cell BK220.out 0).trans rfl, (blk_cell BK220.out 1).trans rfl, (blk_cell BK220.out 2).trans rfl, (blk_cell BK220.out 3).trans rfl, hx245_0⟩ (fun hHeld => ?_); refine with_tabW racewaylaw6_ResidualReach.tab23 racewaylaw6_ResidualReach.bits23 (fun HT_ HW_ => ?_));(generalize wr.drew = w92 at HO_18 HO_20 HO_22 HO_26 HO_221003 BK220 HB hx245_0 hHeld ⊢);(refine pure_ (i := 1) (N := some 143) (v := ?_) (a' := ?_) #[false, true, false, false, false, false, false, false, false, false, false] rfl rfl (any_of HT_.out (by kernel_rfl)) (fun _ _ _ h => h) (Or.inl ⟨by rfl, ?_⟩) ?_ ?_)
                            rotate_left
                            ·intro w'
                             go_simp
                             with_reducible rfl
                            rotate_left
                            ·simp only [Act.put, List.setIfInBounds_toArray, List.set_cons_zero, List.set_cons_succ, i64_w, i32_w]
                             rfl
                            refine pure_ (i := 2) (N := some 144) (v := ?_) (a' := ?_) #[false, true, true, false, false, false, false, false, false, false, false] rfl rfl (any_of HT_.out (by kernel_rfl)) (fun _ _ _ h => h) (Or.inl ⟨by rfl, ?_⟩) ?_ ?_
                            rotate_left
                            ·intro w'
                             go_simp
                             with_reducible rfl
                            rotate_left
                            ·simp only [Act.put, List.setIfInBounds_toArray, List.set_cons_zero, List.set_cons_succ, i64_w, i32_w]
                             rfl
                            refine pure_ (i := 3) (N := some 145) (v := ?_) (a' := ?_) #[false, true, true, true, false, false, false, false, false, false, false] rfl rfl (any_of HT_.out (by kernel_rfl)) (fun _ _ _ h => h) (Or.inl ⟨by rfl, ?_⟩) ?_ ?_
                            rotate_left
                            ·intro w'
                             go_simp
                             with_reducible rfl
                            rotate_left
                            ·simp only [Act.put, List.setIfInBounds_toArray, List.set_cons_zero, List.set_cons_succ, i64_w, i32_w]
                             rfl
                            refine take_ (i := 0) (N := some 142) (v := ?_) (a' := ?_) #[true, true, true, true, false, false, false, false, false, false, false] rfl rfl (take_ofW HT_.out HW_.out (by kernel_rfl)) (fun _ _ _ h => h) (Or.inl ⟨by rfl, ?_⟩) hHeld ?_ ?_
                            rotate_left
                            ·rintro w' ⟨s0, s1, s2, s3, s4⟩
                             go_simp
                             with_reducible rfl
                            rotate_left
                            ·simp only [Act.put, List.setIfInBounds_toArray, List.set_cons_zero, List.set_cons_succ, i64_w, i32_w]
                             rfl
                            refine take_ (i := 4) (N := some 146) (v := ?_) (a' := ?_) #[true, true, true, true, true, false, false, false, false, false, false] rfl rfl (take_ofW HT_.out HW_.out (by kernel_rfl)) (fun _ _ _ h => h) (Or.inl ⟨by rfl, ?_⟩) hHeld ?_ ?_
                            rotate_left
                            ·rintro w' ⟨s0, s1, s2, s3, s4⟩
                             go_simp
                             with_reducible rfl
                            rotate_left
                            ·simp only [Act.put, List.setIfInBounds_toArray, List.set_cons_zero, List.set_cons_succ, i64_w, i32_w]
                             rfl
                            (refine one_ (i := 5) (N := some 147) #[true, true, true, true, true, true, false, false, false, false, false] rfl rfl (one_of HT_.out (by kernel_rfl)) (by decide) (fun K hK => ?_));(refine goes_ Try.func21 (by kernel_rfl) rfl #[.agg #[.int .i64 t214, .int .i64 t215, .int .i64 t216, .slice Ao23 t217.length co23], .int .i64 (rd t242 x27_4)] (by rfl) rfl rfl (by (try simp only [List.map_toArray, List.map_cons, List.map_nil]); first | done | rfl | (simp only [List.length_drop, List.length_take]; rfl)) ?_)
                            with_reducible refine (residual_Ends.calls k4 t214 t215 t216 _ _ t217 (rd t242 x27_4) t246 t247 _ ?side1 ?side2 A71.out).mono ?_
                            (case side1 => repeat (first | exact (Kd.R_reads' HO_221003.out).2.2 | (with_reducible refine Kd.C_alloc ?_ _) | (with_reducible refine Kd.C_drewN ?_ _) | (with_reducible refine Kd.C_drew ?_)))
                            (case side2 => exact (Kd.R_reads' HO_221003.out).2.1)
                            (rintro e w93 ⟨rfl, hb⟩);(have HS4_ := (hb.cell (World.block_lt_of_cell? _ _ (hHeld.2.2.2.2))).trans (hHeld.2.2.2.2));(refine ⟨_, rfl, ?_⟩);(have n0_ := Aside0.mk (Kd.R_below (by (with_reducible repeat first | apply Kd.R_alloc | apply Kd.R_drewN | apply Kd.R_drew); exact HO_18.out) hb));(have n1_ := Aside0.mk (Kd.R_below (by (with_reducible repeat first | apply Kd.R_alloc | apply Kd.R_drewN | apply Kd.R_drew); exact HO_20.out) hb));(have n2_ := Aside0.mk (Kd.R_below (by (with_reducible repeat first | apply Kd.R_alloc | apply Kd.R_drewN | apply Kd.R_drew); exact HO_22.out) hb));(have n3_ := Aside0.mk (Kd.R_below (by (with_reducible repeat first | apply Kd.R_alloc | apply Kd.R_drewN | apply Kd.R_drew); exact HO_26.out) hb));(have n4_ := Aside0.mk (Kd.R_below (by (with_reducible repeat first | apply Kd.R_alloc | apply Kd.R_drewN | apply Kd.R_drew); exact HO_221003.out) hb));(have n5_ := Aside0.mk (blk_below (g := gb220) (o := .cells #[.int .i64 t214, .int .i64 t215, .int .i64 t216, .slice Ao23 t217.length co23] 27 (0, 0)) (by (with_reducible repeat first | refine blk_drewN ?_ _ | refine blk_drew ?_ | refine blk_alloc ?_ _); exact BK220.out) hb));(have n6_ := Aside0.mk (below_step (by repeat (first | (with_reducible first | exact HB.out | apply below_alloc | apply pw_below_drewN | apply below_drew1 | refine below_set ?_ GE220.out) | exact HB.out)) hb));(clear HO_18);(clear HO_20);(clear HO_22);(clear HO_26);(clear HO_221003);(clear BK220);(clear HB);(have HO_18 := n0_);(have HO_20 := n1_);(have HO_22 := n2_);(have HO_26 := n3_);(have HO_221003 := n4_);(have BK220 := n5_);(have HB := n6_);(clear n0_ n1_ n2_ n3_ n4_ n5_ n6_);((try clear hb));((try clear hb2));((try clear hk));((try clear hi));(refine hK.out _ _ ⟨(blk_cell BK220.out 0).trans rfl, (blk_cell BK220.out 1).trans rfl, (blk_cell BK220.out 2).trans rfl, (blk_cell BK220.out 3).trans rfl, HS4_⟩ (fun hHeld => ?_));(clear hK K);(refine norm_ (a' := ?_) ?_ ?_)
                            rotate_left
                            ·show Act.put _ (some 147) _ = _
                             simp only [Act.put, List.setIfInBounds_toArray, List.set_cons_zero, List.set_cons_succ, i64_w, i32_w]
                             rfl
                            refine pure_ (i := 6) (N := some 141) (v := ?_) (a' := ?_) #[true, true, true, true, true, true, true, false, false, false, false] rfl rfl (any_of HT_.out (by kernel_rfl)) (fun _ _ _ h => h) (Or.inl ⟨by rfl, ?_⟩) ?_ ?_
                            rotate_left
                            ·intro w'
                             go_simp
                             with_reducible rfl
                            rotate_left
                            ·simp only [Act.put, List.setIfInBounds_toArray, List.set_cons_zero, List.set_cons_succ, i64_w, i32_w]
                             rfl
                            refine pure_ (i := 7) (N := some 148) (v := ?_) (a' := ?_) #[true, true, true, true, true, true, true, true, false, false, false] rfl rfl (any_of HT_.out (by kernel_rfl)) (fun _ _ _ h => h) (Or.inl ⟨by rfl, ?_⟩) ?_ ?_
                            rotate_left
                            ·intro w'
                             go_simp
                             with_reducible rfl
                            rotate_left
                            ·simp only [Act.put, List.setIfInBounds_toArray, List.set_cons_zero, List.set_cons_succ, i64_w, i32_w]
                             rfl
                            refine pure_ (i := 8) (N := some 149) (v := ?_) (a' := ?_) #[true, true, true, true, true, true, true, true, true, false, false] rfl rfl (any_of HT_.out (by kernel_rfl)) (fun _ _ _ h => h) (Or.inl ⟨by rfl, ?_⟩) ?_ ?_
                            rotate_left
                            ·intro w'
                             go_simp
                             with_reducible rfl
                            rotate_left
                            ·simp only [Act.put, List.setIfInBounds_toArray, List.set_cons_zero, List.set_cons_succ, i64_w, i32_w]
                             rfl
                            refine pure_ (i := 9) (N := some 28) (v := ?_) (a' := ?_) #[true, true, true, true, true, true, true, true, true, true, false] rfl rfl (any_of HT_.out (by kernel_rfl)) (fun _ _ _ h => h) (Or.inl ⟨by rfl, ?_⟩) ?_ ?_
                            rotate_left
                            ·intro w'
                             go_simp
                             with_reducible rfl
                            rotate_left
                            ·simp only [Act.put, List.setIfInBounds_toArray, List.set_cons_zero, List.set_cons_succ, i64_w, i32_w]
                             rfl
                            refine pure_ (i := 10) (N := some 29) (v := ?_) (a' := ?_) #[true, true, true, true, true, true, true, true, true, true, true] rfl rfl (any_of HT_.out (by kernel_rfl)) (fun _ _ _ h => h) (Or.inl ⟨by rfl, ?_⟩) ?_ ?_
                            rotate_left
                            ·intro w'
                             go_simp
                             with_reducible rfl
                            rotate_left
                            ·simp only [Act.put, List.setIfInBounds_toArray, List.set_cons_zero, List.set_cons_succ, i64_w, i32_w]
                             rfl
                            (refine done_ (done_of HT_.out (by kernel_rfl)) ?_);(obtain ⟨Ao94, co94, eo94⟩ := Kd.R_slice HO_20.out);(subst eo94);(have p248 : 0 ≤ (x24_2 : Int) := of_decide_eq_true (by first | (with_reducible assumption) | assumption));(have q248 : x24_2 < (t230.length : Int) := of_decide_eq_true (by first | (with_reducible assumption) | assumption));(obtain ⟨ad248, e248, hx248_0⟩ := Kd.at_bool (Kd.R_reads' HO_20.out).2.2 x24_2 p248 q248);((try rw [← Nbq74.out] at hx248_0));((try rw [← Nbq81.out] at hx248_0));(cases e248);(replace p248 := eq_true p248);(replace q248 := eq_true q248);(have p249 : 0 ≤ (x27_4 : Int) := of_decide_eq_true (by first | (with_reducible assumption) | assumption));(have q249 : x27_4 < (t242.length : Int) := of_decide_eq_true (by first | (with_reducible assumption) | assumption));(obtain ⟨ad249, e249, hx249_0⟩ := Kd.at_int (Kd.R_reads' HO_26.out).2.2 x27_4 p249 q249);(obtain rfl : ad245 = ad249 := (by injection e249));(replace p249 := eq_true p249);(replace q249 := eq_true q249);(obtain ⟨Ao95, co95, eo95⟩ := Kd.R_slice HO_18.out);(subst eo95);(have p250 : 0 ≤ ((rd t242 x27_4) : Int) := of_decide_eq_true (by first | (with_reducible assumption) | assumption));(have q250 : (rd t242 x27_4) < (t226.length : Int) := of_decide_eq_true (by first | (with_reducible assumption) | assumption));(obtain ⟨ad250, e250, hx250_0⟩ := Kd.at_int (Kd.R_reads' HO_18.out).2.2 (rd t242 x27_4) p250 q250);(cases e250);(replace p250 := eq_true p250);(replace q250 := eq_true q250);(have p251 : 0 ≤ (t247 : Int) := of_decide_eq_true (by first | (with_reducible assumption) | assumption));(have q251 : t247 < (t230.length : Int) := of_decide_eq_true (by first | (with_reducible assumption) | assumption));(obtain ⟨ad251, e251, hx251_0⟩ := Kd.at_bool (Kd.R_reads' HO_20.out).2.2 t247 p251 q251);((try rw [← Nbq74.out] at hx251_0));((try rw [← Nbq81.out] at hx251_0));(obtain rfl : ad248 = ad251 := (by injection e251));(replace p251 := eq_true p251);(replace q251 := eq_true q251);(have p252 : 0 ≤ (t247 : Int) := of_decide_eq_true (by first | (with_reducible assumption) | assumption));(have q252 : t247 < (t230.length : Int) := of_decide_eq_true (by first | (with_reducible assumption) | assumption));(obtain ⟨ad252, e252, hx252_0⟩ := Kd.at_bool (Kd.R_reads' HO_20.out).2.2 t247 p252 q252);((try rw [← Nbq74.out] at hx252_0));((try rw [← Nbq81.out] at hx252_0));(obtain rfl : ad248 = ad252 := (by injection e252));(replace p252 := eq_true p252);(replace q252 := eq_true q252);(have p253 : 0 ≤ (x27_4 : Int) := of_decide_eq_true (by first | (with_reducible assumption) | assumption));(have q253 : x27_4 < (t242.length : Int) := of_decide_eq_true (by first | (with_reducible assumption) | assumption));(obtain ⟨ad253, e253, hx253_0⟩ := Kd.at_int (Kd.R_reads' HO_26.out).2.2 x27_4 p253 q253);(obtain rfl : ad245 = ad253 := (by injection e253));(replace p253 := eq_true p253);(replace q253 := eq_true q253);(have p254 : 0 ≤ ((Go.bits .xor .i64 (rd t242 x27_4) 1) : Int) := of_decide_eq_true (by first | (with_reducible assumption) | assumption));(have q254 : (Go.bits .xor .i64 (rd t242 x27_4) 1) < (t226.length : Int) := of_decide_eq_true (by first | (with_reducible assumption) | assumption));(obtain ⟨ad254, e254, hx254_0⟩ := Kd.at_int (Kd.R_reads' HO_18.out).2.2 (Go.bits .xor .i64 (rd t242 x27_4) 1) p254 q254);(obtain rfl : ad250 = ad254 := (by injection e254));(replace p254 := eq_true p254);(replace q254 := eq_true q254)
                            try go_wp2
                            go_roundg k4
                            case measure => have := HJ17.out; have := HK2.out; have := HJ54.out; have := HK4.out; omega
                            case rel => exact ⟨(decide ((rd t226 (Go.bits .xor .i64 (rd t242 x27_4) 1)) ≥ (wrap64 (1 + (ji13))))), (wrap64 (x27_4 + 1)), (by first | rfl | (simp; done) | (simp only [← hji13] <;> (first | rfl | simp)) | (simp [*]; done)), (by first | rfl | (simp; done) | (simp [*]; done)), H', ⟨by have := HJ17.out; have := HK2.out; have := HJ54.out; have := HK4.out; omega⟩, ⟨by (with_reducible repeat first | apply Kd.R_alloc | apply Kd.R_drewN | apply Kd.R_drew); exact HO_18.out⟩, ⟨by (with_reducible repeat first | apply Kd.R_alloc | apply Kd.R_drewN | apply Kd.R_drew); exact HO_20.out⟩, ⟨by (with_reducible repeat first | apply Kd.R_alloc | apply Kd.R_drewN | apply Kd.R_drew); exact HO_22.out⟩, ⟨by (with_reducible repeat first | apply Kd.R_alloc | apply Kd.R_drewN | apply Kd.R_drew); exact HO_26.out⟩, ⟨by (with_reducible repeat first | apply Kd.R_alloc | apply Kd.R_drewN | apply Kd.R_drew); exact HO_221003.out⟩, ⟨by (with_reducible repeat first | refine blk_drewN ?_ _ | refine blk_drew ?_ | refine blk_alloc ?_ _); exact BK220.out⟩, ⟨by repeat (first | (with_reducible first | exact HB.out | apply below_alloc | apply pw_below_drewN | apply below_drew1 | refine below_set ?_ GE220.out) | exact HB.out)⟩⟩
                          ·(rw [if_neg c90] at H);(exact absurd H (by simp))
                         ·(rw [if_neg c89] at H);(exact absurd H (by simp))
                       ·(replace c82 := Bool.eq_false_iff.mpr c82);(subst c82);(have H1 : (some false) = some r := by rw [if_neg (show ¬ (false = true) by decide)] at H; exact H);(clear H);(have H := H1);(clear H1);(exact absurd ((Option.some.inj H).trans hrT_.out) (by simp))
                      ·(rw [if_neg c80] at H);(exact absurd H (by simp))
                     ·(rw [if_neg c79] at H);(exact absurd H (by simp))
                    ·(rw [if_neg c78] at H);(have c78b0 : decide ((wrap64 (1 + (ji13))) ≤ (rd t226 (rd t242 x27_4))) = false := decide_eq_false c78);(clear c78)
                     by_cases c96 : x25_4 = true
                     ·(subst c96);(have H1 : (racewaylaw6_ResidualReach.l1 k4 (wrap64 (1 + (ji13))) t226 t230 t234 x24_2 true t242 (wrap64 (x27_4 + 1)) t214 t215 t216 t217) = some r := by rw [if_pos rfl] at H; exact H);(clear H);(have H := H1);(clear H1)
                      as_aux_lemma =>
                       (have H' := Aside0.mk H);(clear H);(obtain ⟨Ao97, co97, eo97⟩ := Kd.R_slice HO_26.out);(subst eo97)
                       try go_wp2
                       (have n0_ := Aside0.mk (Kd.R_drew HO_18.out));(have n1_ := Aside0.mk (Kd.R_drew HO_20.out));(have n2_ := Aside0.mk (Kd.R_drew HO_22.out));(have n3_ := Aside0.mk (Kd.R_drew HO_26.out));(have n4_ := Aside0.mk (Kd.R_drew HO_221003.out));(have n5_ := Aside0.mk (blk_drew BK220.out));(have n6_ := Aside0.mk (below_drew1 HB.out));(clear HO_18);(clear HO_20);(clear HO_22);(clear HO_26);(clear HO_221003);(clear BK220);(clear HB);(have HO_18 := n0_);(have HO_20 := n1_);(have HO_22 := n2_);(have HO_26 := n3_);(have HO_221003 := n4_);(have BK220 := n5_);(have HB := n6_);(clear n0_ n1_ n2_ n3_ n4_ n5_ n6_);(have p245 : 0 ≤ (x27_4 : Int) := of_decide_eq_true (by first | (with_reducible assumption) | assumption));(have q245 : x27_4 < (t242.length : Int) := of_decide_eq_true (by first | (with_reducible assumption) | assumption));(obtain ⟨ad245, e245, hx245_0⟩ := Kd.at_int (Kd.R_reads' HO_26.out).2.2 x27_4 p245 q245);(cases e245);(replace p245 := eq_true p245);(replace q245 := eq_true q245);(refine start_ (n := 11) (S := fun w' => w'.cell? ⟨gb220, 0, none⟩ = some (.int .i64 t214) ∧ w'.cell? ⟨gb220, 1, none⟩ = some (.int .i64 t215) ∧ w'.cell? ⟨gb220, 2, none⟩ = some (.int .i64 t216) ∧ w'.cell? ⟨gb220, 3, none⟩ = some (.slice Ao23 t217.length co23) ∧ w'.cell? (ad245.add (x27_4).toNat) = some (.int .i64 (rd t242 x27_4))) (ds := []) #[false, false, false, false, false, false, false, false, false, false, false] (by kernel_rfl) rfl rfl ⟨(blk_cell BK220.out 0).trans rfl, (blk_cell BK220.out 1).trans rfl, (blk_cell BK220.out 2).trans rfl, (blk_cell BK220.out 3).trans rfl, hx245_0⟩ (fun hHeld => ?_); refine with_tabW racewaylaw6_ResidualReach.tab23 racewaylaw6_ResidualReach.bits23 (fun HT_ HW_ => ?_));(generalize wr.drew = w98 at HO_18 HO_20 HO_22 HO_26 HO_221003 BK220 HB hx245_0 hHeld ⊢);(refine pure_ (i := 1) (N := some 143) (v := ?_) (a' := ?_) #[false, true, false, false, false, false, false, false, false, false, false] rfl rfl (any_of HT_.out (by kernel_rfl)) (fun _ _ _ h => h) (Or.inl ⟨by rfl, ?_⟩) ?_ ?_)
                       rotate_left
                       ·intro w'
                        go_simp
                        with_reducible rfl
                       rotate_left
                       ·simp only [Act.put, List.setIfInBounds_toArray, List.set_cons_zero, List.set_cons_succ, i64_w, i32_w]
                        rfl
                       refine pure_ (i := 2) (N := some 144) (v := ?_) (a' := ?_) #[false, true, true, false, false, false, false, false, false, false, false] rfl rfl (any_of HT_.out (by kernel_rfl)) (fun _ _ _ h => h) (Or.inl ⟨by rfl, ?_⟩) ?_ ?_
                       rotate_left
                       ·intro w'
                        go_simp
                        with_reducible rfl
                       rotate_left
                       ·simp only [Act.put, List.setIfInBounds_toArray, List.set_cons_zero, List.set_cons_succ, i64_w, i32_w]
                        rfl
                       refine pure_ (i := 3) (N := some 145) (v := ?_) (a' := ?_) #[false, true, true, true, false, false, false, false, false, false, false] rfl rfl (any_of HT_.out (by kernel_rfl)) (fun _ _ _ h => h) (Or.inl ⟨by rfl, ?_⟩) ?_ ?_
                       rotate_left
                       ·intro w'
                        go_simp
                        with_reducible rfl
                       rotate_left
                       ·simp only [Act.put, List.setIfInBounds_toArray, List.set_cons_zero, List.set_cons_succ, i64_w, i32_w]
                        rfl
                       refine take_ (i := 0) (N := some 142) (v := ?_) (a' := ?_) #[true, true, true, true, false, false, false, false, false, false, false] rfl rfl (take_ofW HT_.out HW_.out (by kernel_rfl)) (fun _ _ _ h => h) (Or.inl ⟨by rfl, ?_⟩) hHeld ?_ ?_
                       rotate_left
                       ·rintro w' ⟨s0, s1, s2, s3, s4⟩
                        go_simp
                        with_reducible rfl
                       rotate_left
                       ·simp only [Act.put, List.setIfInBounds_toArray, List.set_cons_zero, List.set_cons_succ, i64_w, i32_w]
                        rfl
                       refine take_ (i := 4) (N := some 146) (v := ?_) (a' := ?_) #[true, true, true, true, true, false, false, false, false, false, false] rfl rfl (take_ofW HT_.out HW_.out (by kernel_rfl)) (fun _ _ _ h => h) (Or.inl ⟨by rfl, ?_⟩) hHeld ?_ ?_
                       rotate_left
                       ·rintro w' ⟨s0, s1, s2, s3, s4⟩
                        go_simp
                        with_reducible rfl
                       rotate_left
                       ·simp only [Act.put, List.setIfInBounds_toArray, List.set_cons_zero, List.set_cons_succ, i64_w, i32_w]
                        rfl
                       (refine one_ (i := 5) (N := some 147) #[true, true, true, true, true, true, false, false, false, false, false] rfl rfl (one_of HT_.out (by kernel_rfl)) (by decide) (fun K hK => ?_));(refine goes_ Try.func21 (by kernel_rfl) rfl #[.agg #[.int .i64 t214, .int .i64 t215, .int .i64 t216, .slice Ao23 t217.length co23], .int .i64 (rd t242 x27_4)] (by rfl) rfl rfl (by (try simp only [List.map_toArray, List.map_cons, List.map_nil]); first | done | rfl | (simp only [List.length_drop, List.length_take]; rfl)) ?_)
                       with_reducible refine (residual_Ends.calls k4 t214 t215 t216 _ _ t217 (rd t242 x27_4) t246 t247 _ ?side1 ?side2 A71.out).mono ?_
                       (case side1 => repeat (first | exact (Kd.R_reads' HO_221003.out).2.2 | (with_reducible refine Kd.C_alloc ?_ _) | (with_reducible refine Kd.C_drewN ?_ _) | (with_reducible refine Kd.C_drew ?_)))
                       (case side2 => exact (Kd.R_reads' HO_221003.out).2.1)
                       (rintro e w99 ⟨rfl, hb⟩);(have HS4_ := (hb.cell (World.block_lt_of_cell? _ _ (hHeld.2.2.2.2))).trans (hHeld.2.2.2.2));(refine ⟨_, rfl, ?_⟩);(have n0_ := Aside0.mk (Kd.R_below (by (with_reducible repeat first | apply Kd.R_alloc | apply Kd.R_drewN | apply Kd.R_drew); exact HO_18.out) hb));(have n1_ := Aside0.mk (Kd.R_below (by (with_reducible repeat first | apply Kd.R_alloc | apply Kd.R_drewN | apply Kd.R_drew); exact HO_20.out) hb));(have n2_ := Aside0.mk (Kd.R_below (by (with_reducible repeat first | apply Kd.R_alloc | apply Kd.R_drewN | apply Kd.R_drew); exact HO_22.out) hb));(have n3_ := Aside0.mk (Kd.R_below (by (with_reducible repeat first | apply Kd.R_alloc | apply Kd.R_drewN | apply Kd.R_drew); exact HO_26.out) hb));(have n4_ := Aside0.mk (Kd.R_below (by (with_reducible repeat first | apply Kd.R_alloc | apply Kd.R_drewN | apply Kd.R_drew); exact HO_221003.out) hb));(have n5_ := Aside0.mk (blk_below (g := gb220) (o := .cells #[.int .i64 t214, .int .i64 t215, .int .i64 t216, .slice Ao23 t217.length co23] 27 (0, 0)) (by (with_reducible repeat first | refine blk_drewN ?_ _ | refine blk_drew ?_ | refine blk_alloc ?_ _); exact BK220.out) hb));(have n6_ := Aside0.mk (below_step (by repeat (first | (with_reducible first | exact HB.out | apply below_alloc | apply pw_below_drewN | apply below_drew1 | refine below_set ?_ GE220.out) | exact HB.out)) hb));(clear HO_18);(clear HO_20);(clear HO_22);(clear HO_26);(clear HO_221003);(clear BK220);(clear HB);(have HO_18 := n0_);(have HO_20 := n1_);(have HO_22 := n2_);(have HO_26 := n3_);(have HO_221003 := n4_);(have BK220 := n5_);(have HB := n6_);(clear n0_ n1_ n2_ n3_ n4_ n5_ n6_);((try clear hb));((try clear hb2));((try clear hk));((try clear hi));(refine hK.out _ _ ⟨(blk_cell BK220.out 0).trans rfl, (blk_cell BK220.out 1).trans rfl, (blk_cell BK220.out 2).trans rfl, (blk_cell BK220.out 3).trans rfl, HS4_⟩ (fun hHeld => ?_));(clear hK K);(refine norm_ (a' := ?_) ?_ ?_)
                       rotate_left
                       ·show Act.put _ (some 147) _ = _
                        simp only [Act.put, List.setIfInBounds_toArray, List.set_cons_zero, List.set_cons_succ, i64_w, i32_w]
                        rfl
                       refine pure_ (i := 6) (N := some 141) (v := ?_) (a' := ?_) #[true, true, true, true, true, true, true, false, false, false, false] rfl rfl (any_of HT_.out (by kernel_rfl)) (fun _ _ _ h => h) (Or.inl ⟨by rfl, ?_⟩) ?_ ?_
                       rotate_left
                       ·intro w'
                        go_simp
                        with_reducible rfl
                       rotate_left
                       ·simp only [Act.put, List.setIfInBounds_toArray, List.set_cons_zero, List.set_cons_succ, i64_w, i32_w]
                        rfl
                       refine pure_ (i := 7) (N := some 148) (v := ?_) (a' := ?_) #[true, true, true, true, true, true, true, true, false, false, false] rfl rfl (any_of HT_.out (by kernel_rfl)) (fun _ _ _ h => h) (Or.inl ⟨by rfl, ?_⟩) ?_ ?_
                       rotate_left
                       ·intro w'
                        go_simp
                        with_reducible rfl
                       rotate_left
                       ·simp only [Act.put, List.setIfInBounds_toArray, List.set_cons_zero, List.set_cons_succ, i64_w, i32_w]
                        rfl
                       refine pure_ (i := 8) (N := some 149) (v := ?_) (a' := ?_) #[true, true, true, true, true, true, true, true, true, false, false] rfl rfl (any_of HT_.out (by kernel_rfl)) (fun _ _ _ h => h) (Or.inl ⟨by rfl, ?_⟩) ?_ ?_
                       rotate_left
                       ·intro w'
                        go_simp
                        with_reducible rfl
                       rotate_left
                       ·simp only [Act.put, List.setIfInBounds_toArray, List.set_cons_zero, List.set_cons_succ, i64_w, i32_w]
                        rfl
                       refine pure_ (i := 9) (N := some 28) (v := ?_) (a' := ?_) #[true, true, true, true, true, true, true, true, true, true, false] rfl rfl (any_of HT_.out (by kernel_rfl)) (fun _ _ _ h => h) (Or.inl ⟨by rfl, ?_⟩) ?_ ?_
                       rotate_left
                       ·intro w'
                        go_simp
                        with_reducible rfl
                       rotate_left
                       ·simp only [Act.put, List.setIfInBounds_toArray, List.set_cons_zero, List.set_cons_succ, i64_w, i32_w]
                        rfl
                       refine pure_ (i := 10) (N := some 29) (v := ?_) (a' := ?_) #[true, true, true, true, true, true, true, true, true, true, true] rfl rfl (any_of HT_.out (by kernel_rfl)) (fun _ _ _ h => h) (Or.inl ⟨by rfl, ?_⟩) ?_ ?_
                       rotate_left
                       ·intro w'
                        go_simp
                        with_reducible rfl
                       rotate_left
                       ·simp only [Act.put, List.setIfInBounds_toArray, List.set_cons_zero, List.set_cons_succ, i64_w, i32_w]
                        rfl
                       (refine done_ (done_of HT_.out (by kernel_rfl)) ?_);(obtain ⟨Ao100, co100, eo100⟩ := Kd.R_slice HO_20.out);(subst eo100);(have p248 : 0 ≤ (x24_2 : Int) := of_decide_eq_true (by first | (with_reducible assumption) | assumption));(have q248 : x24_2 < (t230.length : Int) := of_decide_eq_true (by first | (with_reducible assumption) | assumption));(obtain ⟨ad248, e248, hx248_0⟩ := Kd.at_bool (Kd.R_reads' HO_20.out).2.2 x24_2 p248 q248);((try rw [← Nbq74.out] at hx248_0));(cases e248);(replace p248 := eq_true p248);(replace q248 := eq_true q248);(have p249 : 0 ≤ (x27_4 : Int) := of_decide_eq_true (by first | (with_reducible assumption) | assumption));(have q249 : x27_4 < (t242.length : Int) := of_decide_eq_true (by first | (with_reducible assumption) | assumption));(obtain ⟨ad249, e249, hx249_0⟩ := Kd.at_int (Kd.R_reads' HO_26.out).2.2 x27_4 p249 q249);(obtain rfl : ad245 = ad249 := (by injection e249));(replace p249 := eq_true p249);(replace q249 := eq_true q249);(obtain ⟨Ao101, co101, eo101⟩ := Kd.R_slice HO_18.out);(subst eo101);(have p250 : 0 ≤ ((rd t242 x27_4) : Int) := of_decide_eq_true (by first | (with_reducible assumption) | assumption));(have q250 : (rd t242 x27_4) < (t226.length : Int) := of_decide_eq_true (by first | (with_reducible assumption) | assumption));(obtain ⟨ad250, e250, hx250_0⟩ := Kd.at_int (Kd.R_reads' HO_18.out).2.2 (rd t242 x27_4) p250 q250);(cases e250);(replace p250 := eq_true p250);(replace q250 := eq_true q250)
                       try go_wp2
                       go_roundg k4
                       case measure => have := HJ17.out; have := HK2.out; have := HJ54.out; have := HK4.out; omega
                       case rel => exact ⟨(true), (wrap64 (x27_4 + 1)), (by first | rfl | (simp; done) | (simp [*]; done)), (by first | rfl | (simp; done) | (simp [*]; done)), H', ⟨by have := HJ17.out; have := HK2.out; have := HJ54.out; have := HK4.out; omega⟩, ⟨by (with_reducible repeat first | apply Kd.R_alloc | apply Kd.R_drewN | apply Kd.R_drew); exact HO_18.out⟩, ⟨by (with_reducible repeat first | apply Kd.R_alloc | apply Kd.R_drewN | apply Kd.R_drew); exact HO_20.out⟩, ⟨by (with_reducible repeat first | apply Kd.R_alloc | apply Kd.R_drewN | apply Kd.R_drew); exact HO_22.out⟩, ⟨by (with_reducible repeat first | apply Kd.R_alloc | apply Kd.R_drewN | apply Kd.R_drew); exact HO_26.out⟩, ⟨by (with_reducible repeat first | apply Kd.R_alloc | apply Kd.R_drewN | apply Kd.R_drew); exact HO_221003.out⟩, ⟨by (with_reducible repeat first | refine blk_drewN ?_ _ | refine blk_drew ?_ | refine blk_alloc ?_ _); exact BK220.out⟩, ⟨by repeat (first | (with_reducible first | exact HB.out | apply below_alloc | apply pw_below_drewN | apply below_drew1 | refine below_set ?_ GE220.out) | exact HB.out)⟩⟩
                     ·(replace c96 := Bool.eq_false_iff.mpr c96);(subst c96);(have H1 : (if 0 ≤ t247 then (if t247 < (t230.length : Int) then (if rdOf false t230 t247 = true then (if 0 ≤ (Go.bits .xor .i64 (rd t242 x27_4) 1) then (if (Go.bits .xor .i64 (rd t242 x27_4) 1) < (t226.length : Int) then (racewaylaw6_ResidualReach.l1 k4 (wrap64 (1 + (ji13))) t226 t230 t234 x24_2 (decide ((rd t226 (Go.bits .xor .i64 (rd t242 x27_4) 1)) ≥ (wrap64 (1 + (ji13))))) t242 (wrap64 (x27_4 + 1)) t214 t215 t216 t217) else (none)) else (none)) else (racewaylaw6_ResidualReach.l1 k4 (wrap64 (1 + (ji13))) t226 t230 t234 x24_2 false t242 (wrap64 (x27_4 + 1)) t214 t215 t216 t217)) else (none)) else (none)) = some r := by rw [if_neg (show ¬ (false = true) by decide)] at H; exact H);(clear H);(have H := H1);(clear H1)
                      by_cases c102 : 0 ≤ t247
                      ·(rw [if_pos c102] at H);(have c102b0 : decide (0 ≤ t247) = true := decide_eq_true c102);(clear c102)
                       by_cases c103 : t247 < (t230.length : Int)
                       ·(rw [if_pos c103] at H);(have c103b0 : decide (t247 < (t230.length : Int)) = true := decide_eq_true c103);(clear c103);(obtain ⟨bq104, hbq104⟩ : ∃ b_ : Bool, b_ = (rdOf false t230 t247) := ⟨_, rfl⟩);(replace H : (if bq104 = true then (if 0 ≤ (Go.bits .xor .i64 (rd t242 x27_4) 1) then (if (Go.bits .xor .i64 (rd t242 x27_4) 1) < (t226.length : Int) then (racewaylaw6_ResidualReach.l1 k4 (wrap64 (1 + (ji13))) t226 t230 t234 x24_2 (decide ((rd t226 (Go.bits .xor .i64 (rd t242 x27_4) 1)) ≥ (wrap64 (1 + (ji13))))) t242 (wrap64 (x27_4 + 1)) t214 t215 t216 t217) else (none)) else (none)) else (racewaylaw6_ResidualReach.l1 k4 (wrap64 (1 + (ji13))) t226 t230 t234 x24_2 false t242 (wrap64 (x27_4 + 1)) t214 t215 t216 t217)) = some r := by rw [← hbq104] at H; exact H);(have Nbq104 := Aside0.mk hbq104);(clear hbq104)
                        by_cases c105 : bq104 = true
                        ·(subst c105);(have H1 : (if 0 ≤ (Go.bits .xor .i64 (rd t242 x27_4) 1) then (if (Go.bits .xor .i64 (rd t242 x27_4) 1) < (t226.length : Int) then (racewaylaw6_ResidualReach.l1 k4 (wrap64 (1 + (ji13))) t226 t230 t234 x24_2 (decide ((rd t226 (Go.bits .xor .i64 (rd t242 x27_4) 1)) ≥ (wrap64 (1 + (ji13))))) t242 (wrap64 (x27_4 + 1)) t214 t215 t216 t217) else (none)) else (none)) = some r := by rw [if_pos rfl] at H; exact H);(clear H);(have H := H1);(clear H1)
                         by_cases c106 : 0 ≤ (Go.bits .xor .i64 (rd t242 x27_4) 1)
                         ·(rw [if_pos c106] at H);(have c106b0 : decide (0 ≤ (Go.bits .xor .i64 (rd t242 x27_4) 1)) = true := decide_eq_true c106);(clear c106)
                          by_cases c107 : (Go.bits .xor .i64 (rd t242 x27_4) 1) < (t226.length : Int)
                          ·(rw [if_pos c107] at H);(have c107b0 : decide ((Go.bits .xor .i64 (rd t242 x27_4) 1) < (t226.length : Int)) = true := decide_eq_true c107);(clear c107)
                           as_aux_lemma =>
                            (have H' := Aside0.mk H);(clear H);(obtain ⟨Ao108, co108, eo108⟩ := Kd.R_slice HO_26.out);(subst eo108)
                            try go_wp2
                            (have n0_ := Aside0.mk (Kd.R_drew HO_18.out));(have n1_ := Aside0.mk (Kd.R_drew HO_20.out));(have n2_ := Aside0.mk (Kd.R_drew HO_22.out));(have n3_ := Aside0.mk (Kd.R_drew HO_26.out));(have n4_ := Aside0.mk (Kd.R_drew HO_221003.out));(have n5_ := Aside0.mk (blk_drew BK220.out));(have n6_ := Aside0.mk (below_drew1 HB.out));(clear HO_18);(clear HO_20);(clear HO_22);(clear HO_26);(clear HO_221003);(clear BK220);(clear HB);(have HO_18 := n0_);(have HO_20 := n1_);(have HO_22 := n2_);(have HO_26 := n3_);(have HO_221003 := n4_);(have BK220 := n5_);(have HB := n6_);(clear n0_ n1_ n2_ n3_ n4_ n5_ n6_);(have p245 : 0 ≤ (x27_4 : Int) := of_decide_eq_true (by first | (with_reducible assumption) | assumption));(have q245 : x27_4 < (t242.length : Int) := of_decide_eq_true (by first | (with_reducible assumption) | assumption));(obtain ⟨ad245, e245, hx245_0⟩ := Kd.at_int (Kd.R_reads' HO_26.out).2.2 x27_4 p245 q245);(cases e245);(replace p245 := eq_true p245);(replace q245 := eq_true q245);(refine start_ (n := 11) (S := fun w' => w'.cell? ⟨gb220, 0, none⟩ = some (.int .i64 t214) ∧ w'.cell? ⟨gb220, 1, none⟩ = some (.int .i64 t215) ∧ w'.cell? ⟨gb220, 2, none⟩ = some (.int .i64 t216) ∧ w'.cell? ⟨gb220, 3, none⟩ = some (.slice Ao23 t217.length co23) ∧ w'.cell? (ad245.add (x27_4).toNat) = some (.int .i64 (rd t242 x27_4))) (ds := []) #[false, false, false, false, false, false, false, false, false, false, false] (by kernel_rfl) rfl rfl ⟨(blk_cell BK220.out 0).trans rfl, (blk_cell BK220.out 1).trans rfl, (blk_cell BK220.out 2).trans rfl, (blk_cell BK220.out 3).trans rfl, hx245_0⟩ (fun hHeld => ?_); refine with_tabW racewaylaw6_ResidualReach.tab23 racewaylaw6_ResidualReach.bits23 (fun HT_ HW_ => ?_));(generalize wr.drew = w109 at HO_18 HO_20 HO_22 HO_26 HO_221003 BK220 HB hx245_0 hHeld ⊢);(refine pure_ (i := 1) (N := some 143) (v := ?_) (a' := ?_) #[false, true, false, false, false, false, false, false, false, false, false] rfl rfl (any_of HT_.out (by kernel_rfl)) (fun _ _ _ h => h) (Or.inl ⟨by rfl, ?_⟩) ?_ ?_)
                            rotate_left
                            ·intro w'
                             go_simp
                             with_reducible rfl
                            rotate_left
                            ·simp only [Act.put, List.setIfInBounds_toArray, List.set_cons_zero, List.set_cons_succ, i64_w, i32_w]
                             rfl
                            refine pure_ (i := 2) (N := some 144) (v := ?_) (a' := ?_) #[false, true, true, false, false, false, false, false, false, false, false] rfl rfl (any_of HT_.out (by kernel_rfl)) (fun _ _ _ h => h) (Or.inl ⟨by rfl, ?_⟩) ?_ ?_
                            rotate_left
                            ·intro w'
                             go_simp
                             with_reducible rfl
                            rotate_left
                            ·simp only [Act.put, List.setIfInBounds_toArray, List.set_cons_zero, List.set_cons_succ, i64_w, i32_w]
                             rfl
                            refine pure_ (i := 3) (N := some 145) (v := ?_) (a' := ?_) #[false, true, true, true, false, false, false, false, false, false, false] rfl rfl (any_of HT_.out (by kernel_rfl)) (fun _ _ _ h => h) (Or.inl ⟨by rfl, ?_⟩) ?_ ?_
                            rotate_left
                            ·intro w'
                             go_simp
                             with_reducible rfl
                            rotate_left
                            ·simp only [Act.put, List.setIfInBounds_toArray, List.set_cons_zero, List.set_cons_succ, i64_w, i32_w]
                             rfl
                            refine take_ (i := 0) (N := some 142) (v := ?_) (a' := ?_) #[true, true, true, true, false, false, false, false, false, false, false] rfl rfl (take_ofW HT_.out HW_.out (by kernel_rfl)) (fun _ _ _ h => h) (Or.inl ⟨by rfl, ?_⟩) hHeld ?_ ?_
                            rotate_left
                            ·rintro w' ⟨s0, s1, s2, s3, s4⟩
                             go_simp
                             with_reducible rfl
                            rotate_left
                            ·simp only [Act.put, List.setIfInBounds_toArray, List.set_cons_zero, List.set_cons_succ, i64_w, i32_w]
                             rfl
                            refine take_ (i := 4) (N := some 146) (v := ?_) (a' := ?_) #[true, true, true, true, true, false, false, false, false, false, false] rfl rfl (take_ofW HT_.out HW_.out (by kernel_rfl)) (fun _ _ _ h => h) (Or.inl ⟨by rfl, ?_⟩) hHeld ?_ ?_
                            rotate_left
                            ·rintro w' ⟨s0, s1, s2, s3, s4⟩
                             go_simp
                             with_reducible rfl
                            rotate_left
                            ·simp only [Act.put, List.setIfInBounds_toArray, List.set_cons_zero, List.set_cons_succ, i64_w, i32_w]
                             rfl
                            (refine one_ (i := 5) (N := some 147) #[true, true, true, true, true, true, false, false, false, false, false] rfl rfl (one_of HT_.out (by kernel_rfl)) (by decide) (fun K hK => ?_));(refine goes_ Try.func21 (by kernel_rfl) rfl #[.agg #[.int .i64 t214, .int .i64 t215, .int .i64 t216, .slice Ao23 t217.length co23], .int .i64 (rd t242 x27_4)] (by rfl) rfl rfl (by (try simp only [List.map_toArray, List.map_cons, List.map_nil]); first | done | rfl | (simp only [List.length_drop, List.length_take]; rfl)) ?_)
                            with_reducible refine (residual_Ends.calls k4 t214 t215 t216 _ _ t217 (rd t242 x27_4) t246 t247 _ ?side1 ?side2 A71.out).mono ?_
                            (case side1 => repeat (first | exact (Kd.R_reads' HO_221003.out).2.2 | (with_reducible refine Kd.C_alloc ?_ _) | (with_reducible refine Kd.C_drewN ?_ _) | (with_reducible refine Kd.C_drew ?_)))
                            (case side2 => exact (Kd.R_reads' HO_221003.out).2.1)
                            (rintro e w110 ⟨rfl, hb⟩);(have HS4_ := (hb.cell (World.block_lt_of_cell? _ _ (hHeld.2.2.2.2))).trans (hHeld.2.2.2.2));(refine ⟨_, rfl, ?_⟩);(have n0_ := Aside0.mk (Kd.R_below (by (with_reducible repeat first | apply Kd.R_alloc | apply Kd.R_drewN | apply Kd.R_drew); exact HO_18.out) hb));(have n1_ := Aside0.mk (Kd.R_below (by (with_reducible repeat first | apply Kd.R_alloc | apply Kd.R_drewN | apply Kd.R_drew); exact HO_20.out) hb));(have n2_ := Aside0.mk (Kd.R_below (by (with_reducible repeat first | apply Kd.R_alloc | apply Kd.R_drewN | apply Kd.R_drew); exact HO_22.out) hb));(have n3_ := Aside0.mk (Kd.R_below (by (with_reducible repeat first | apply Kd.R_alloc | apply Kd.R_drewN | apply Kd.R_drew); exact HO_26.out) hb));(have n4_ := Aside0.mk (Kd.R_below (by (with_reducible repeat first | apply Kd.R_alloc | apply Kd.R_drewN | apply Kd.R_drew); exact HO_221003.out) hb));(have n5_ := Aside0.mk (blk_below (g := gb220) (o := .cells #[.int .i64 t214, .int .i64 t215, .int .i64 t216, .slice Ao23 t217.length co23] 27 (0, 0)) (by (with_reducible repeat first | refine blk_drewN ?_ _ | refine blk_drew ?_ | refine blk_alloc ?_ _); exact BK220.out) hb));(have n6_ := Aside0.mk (below_step (by repeat (first | (with_reducible first | exact HB.out | apply below_alloc | apply pw_below_drewN | apply below_drew1 | refine below_set ?_ GE220.out) | exact HB.out)) hb));(clear HO_18);(clear HO_20);(clear HO_22);(clear HO_26);(clear HO_221003);(clear BK220);(clear HB);(have HO_18 := n0_);(have HO_20 := n1_);(have HO_22 := n2_);(have HO_26 := n3_);(have HO_221003 := n4_);(have BK220 := n5_);(have HB := n6_);(clear n0_ n1_ n2_ n3_ n4_ n5_ n6_);((try clear hb));((try clear hb2));((try clear hk));((try clear hi));(refine hK.out _ _ ⟨(blk_cell BK220.out 0).trans rfl, (blk_cell BK220.out 1).trans rfl, (blk_cell BK220.out 2).trans rfl, (blk_cell BK220.out 3).trans rfl, HS4_⟩ (fun hHeld => ?_));(clear hK K);(refine norm_ (a' := ?_) ?_ ?_)
                            rotate_left
                            ·show Act.put _ (some 147) _ = _
                             simp only [Act.put, List.setIfInBounds_toArray, List.set_cons_zero, List.set_cons_succ, i64_w, i32_w]
                             rfl
                            refine pure_ (i := 6) (N := some 141) (v := ?_) (a' := ?_) #[true, true, true, true, true, true, true, false, false, false, false] rfl rfl (any_of HT_.out (by kernel_rfl)) (fun _ _ _ h => h) (Or.inl ⟨by rfl, ?_⟩) ?_ ?_
                            rotate_left
                            ·intro w'
                             go_simp
                             with_reducible rfl
                            rotate_left
                            ·simp only [Act.put, List.setIfInBounds_toArray, List.set_cons_zero, List.set_cons_succ, i64_w, i32_w]
                             rfl
                            refine pure_ (i := 7) (N := some 148) (v := ?_) (a' := ?_) #[true, true, true, true, true, true, true, true, false, false, false] rfl rfl (any_of HT_.out (by kernel_rfl)) (fun _ _ _ h => h) (Or.inl ⟨by rfl, ?_⟩) ?_ ?_
                            rotate_left
                            ·intro w'
                             go_simp
                             with_reducible rfl
                            rotate_left
                            ·simp only [Act.put, List.setIfInBounds_toArray, List.set_cons_zero, List.set_cons_succ, i64_w, i32_w]
                             rfl
                            refine pure_ (i := 8) (N := some 149) (v := ?_) (a' := ?_) #[true, true, true, true, true, true, true, true, true, false, false] rfl rfl (any_of HT_.out (by kernel_rfl)) (fun _ _ _ h => h) (Or.inl ⟨by rfl, ?_⟩) ?_ ?_
                            rotate_left
                            ·intro w'
                             go_simp
                             with_reducible rfl
                            rotate_left
                            ·simp only [Act.put, List.setIfInBounds_toArray, List.set_cons_zero, List.set_cons_succ, i64_w, i32_w]
                             rfl
                            refine pure_ (i := 9) (N := some 28) (v := ?_) (a' := ?_) #[true, true, true, true, true, true, true, true, true, true, false] rfl rfl (any_of HT_.out (by kernel_rfl)) (fun _ _ _ h => h) (Or.inl ⟨by rfl, ?_⟩) ?_ ?_
                            rotate_left
                            ·intro w'
                             go_simp
                             with_reducible rfl
                            rotate_left
                            ·simp only [Act.put, List.setIfInBounds_toArray, List.set_cons_zero, List.set_cons_succ, i64_w, i32_w]
                             rfl
                            refine pure_ (i := 10) (N := some 29) (v := ?_) (a' := ?_) #[true, true, true, true, true, true, true, true, true, true, true] rfl rfl (any_of HT_.out (by kernel_rfl)) (fun _ _ _ h => h) (Or.inl ⟨by rfl, ?_⟩) ?_ ?_
                            rotate_left
                            ·intro w'
                             go_simp
                             with_reducible rfl
                            rotate_left
                            ·simp only [Act.put, List.setIfInBounds_toArray, List.set_cons_zero, List.set_cons_succ, i64_w, i32_w]
                             rfl
                            (refine done_ (done_of HT_.out (by kernel_rfl)) ?_);(obtain ⟨Ao111, co111, eo111⟩ := Kd.R_slice HO_20.out);(subst eo111);(have p248 : 0 ≤ (x24_2 : Int) := of_decide_eq_true (by first | (with_reducible assumption) | assumption));(have q248 : x24_2 < (t230.length : Int) := of_decide_eq_true (by first | (with_reducible assumption) | assumption));(obtain ⟨ad248, e248, hx248_0⟩ := Kd.at_bool (Kd.R_reads' HO_20.out).2.2 x24_2 p248 q248);((try rw [← Nbq74.out] at hx248_0));((try rw [← Nbq104.out] at hx248_0));(cases e248);(replace p248 := eq_true p248);(replace q248 := eq_true q248);(have p249 : 0 ≤ (x27_4 : Int) := of_decide_eq_true (by first | (with_reducible assumption) | assumption));(have q249 : x27_4 < (t242.length : Int) := of_decide_eq_true (by first | (with_reducible assumption) | assumption));(obtain ⟨ad249, e249, hx249_0⟩ := Kd.at_int (Kd.R_reads' HO_26.out).2.2 x27_4 p249 q249);(obtain rfl : ad245 = ad249 := (by injection e249));(replace p249 := eq_true p249);(replace q249 := eq_true q249);(obtain ⟨Ao112, co112, eo112⟩ := Kd.R_slice HO_18.out);(subst eo112);(have p250 : 0 ≤ ((rd t242 x27_4) : Int) := of_decide_eq_true (by first | (with_reducible assumption) | assumption));(have q250 : (rd t242 x27_4) < (t226.length : Int) := of_decide_eq_true (by first | (with_reducible assumption) | assumption));(obtain ⟨ad250, e250, hx250_0⟩ := Kd.at_int (Kd.R_reads' HO_18.out).2.2 (rd t242 x27_4) p250 q250);(cases e250);(replace p250 := eq_true p250);(replace q250 := eq_true q250);(have p255 : 0 ≤ (t247 : Int) := of_decide_eq_true (by first | (with_reducible assumption) | assumption));(have q255 : t247 < (t230.length : Int) := of_decide_eq_true (by first | (with_reducible assumption) | assumption));(obtain ⟨ad255, e255, hx255_0⟩ := Kd.at_bool (Kd.R_reads' HO_20.out).2.2 t247 p255 q255);((try rw [← Nbq74.out] at hx255_0));((try rw [← Nbq104.out] at hx255_0));(obtain rfl : ad248 = ad255 := (by injection e255));(replace p255 := eq_true p255);(replace q255 := eq_true q255);(have p256 : 0 ≤ (x27_4 : Int) := of_decide_eq_true (by first | (with_reducible assumption) | assumption));(have q256 : x27_4 < (t242.length : Int) := of_decide_eq_true (by first | (with_reducible assumption) | assumption));(obtain ⟨ad256, e256, hx256_0⟩ := Kd.at_int (Kd.R_reads' HO_26.out).2.2 x27_4 p256 q256);(obtain rfl : ad245 = ad256 := (by injection e256));(replace p256 := eq_true p256);(replace q256 := eq_true q256);(have p257 : 0 ≤ ((Go.bits .xor .i64 (rd t242 x27_4) 1) : Int) := of_decide_eq_true (by first | (with_reducible assumption) | assumption));(have q257 : (Go.bits .xor .i64 (rd t242 x27_4) 1) < (t226.length : Int) := of_decide_eq_true (by first | (with_reducible assumption) | assumption));(obtain ⟨ad257, e257, hx257_0⟩ := Kd.at_int (Kd.R_reads' HO_18.out).2.2 (Go.bits .xor .i64 (rd t242 x27_4) 1) p257 q257);(obtain rfl : ad250 = ad257 := (by injection e257));(replace p257 := eq_true p257);(replace q257 := eq_true q257)
                            try go_wp2
                            go_roundg k4
                            case measure => have := HJ17.out; have := HK2.out; have := HJ54.out; have := HK4.out; omega
                            case rel => exact ⟨(decide ((rd t226 (Go.bits .xor .i64 (rd t242 x27_4) 1)) ≥ (wrap64 (1 + (ji13))))), (wrap64 (x27_4 + 1)), (by first | rfl | (simp; done) | (simp only [← hji13] <;> (first | rfl | simp)) | (simp [*]; done)), (by first | rfl | (simp; done) | (simp [*]; done)), H', ⟨by have := HJ17.out; have := HK2.out; have := HJ54.out; have := HK4.out; omega⟩, ⟨by (with_reducible repeat first | apply Kd.R_alloc | apply Kd.R_drewN | apply Kd.R_drew); exact HO_18.out⟩, ⟨by (with_reducible repeat first | apply Kd.R_alloc | apply Kd.R_drewN | apply Kd.R_drew); exact HO_20.out⟩, ⟨by (with_reducible repeat first | apply Kd.R_alloc | apply Kd.R_drewN | apply Kd.R_drew); exact HO_22.out⟩, ⟨by (with_reducible repeat first | apply Kd.R_alloc | apply Kd.R_drewN | apply Kd.R_drew); exact HO_26.out⟩, ⟨by (with_reducible repeat first | apply Kd.R_alloc | apply Kd.R_drewN | apply Kd.R_drew); exact HO_221003.out⟩, ⟨by (with_reducible repeat first | refine blk_drewN ?_ _ | refine blk_drew ?_ | refine blk_alloc ?_ _); exact BK220.out⟩, ⟨by repeat (first | (with_reducible first | exact HB.out | apply below_alloc | apply pw_below_drewN | apply below_drew1 | refine below_set ?_ GE220.out) | exact HB.out)⟩⟩
                          ·(rw [if_neg c107] at H);(exact absurd H (by simp))
                         ·(rw [if_neg c106] at H);(exact absurd H (by simp))
                        ·(replace c105 := Bool.eq_false_iff.mpr c105);(subst c105);(have H1 : (racewaylaw6_ResidualReach.l1 k4 (wrap64 (1 + (ji13))) t226 t230 t234 x24_2 false t242 (wrap64 (x27_4 + 1)) t214 t215 t216 t217) = some r := by rw [if_neg (show ¬ (false = true) by decide)] at H; exact H);(clear H);(have H := H1);(clear H1)
                         as_aux_lemma =>
                          (have H' := Aside0.mk H);(clear H);(obtain ⟨Ao113, co113, eo113⟩ := Kd.R_slice HO_26.out);(subst eo113)
                          try go_wp2
                          (have n0_ := Aside0.mk (Kd.R_drew HO_18.out));(have n1_ := Aside0.mk (Kd.R_drew HO_20.out));(have n2_ := Aside0.mk (Kd.R_drew HO_22.out));(have n3_ := Aside0.mk (Kd.R_drew HO_26.out));(have n4_ := Aside0.mk (Kd.R_drew HO_221003.out));(have n5_ := Aside0.mk (blk_drew BK220.out));(have n6_ := Aside0.mk (below_drew1 HB.out));(clear HO_18);(clear HO_20);(clear HO_22);(clear HO_26);(clear HO_221003);(clear BK220);(clear HB);(have HO_18 := n0_);(have HO_20 := n1_);(have HO_22 := n2_);(have HO_26 := n3_);(have HO_221003 := n4_);(have BK220 := n5_);(have HB := n6_);(clear n0_ n1_ n2_ n3_ n4_ n5_ n6_);(have p245 : 0 ≤ (x27_4 : Int) := of_decide_eq_true (by first | (with_reducible assumption) | assumption));(have q245 : x27_4 < (t242.length : Int) := of_decide_eq_true (by first | (with_reducible assumption) | assumption));(obtain ⟨ad245, e245, hx245_0⟩ := Kd.at_int (Kd.R_reads' HO_26.out).2.2 x27_4 p245 q245);(cases e245);(replace p245 := eq_true p245);(replace q245 := eq_true q245);(refine start_ (n := 11) (S := fun w' => w'.cell? ⟨gb220, 0, none⟩ = some (.int .i64 t214) ∧ w'.cell? ⟨gb220, 1, none⟩ = some (.int .i64 t215) ∧ w'.cell? ⟨gb220, 2, none⟩ = some (.int .i64 t216) ∧ w'.cell? ⟨gb220, 3, none⟩ = some (.slice Ao23 t217.length co23) ∧ w'.cell? (ad245.add (x27_4).toNat) = some (.int .i64 (rd t242 x27_4))) (ds := []) #[false, false, false, false, false, false, false, false, false, false, false] (by kernel_rfl) rfl rfl ⟨(blk_cell BK220.out 0).trans rfl, (blk_cell BK220.out 1).trans rfl, (blk_cell BK220.out 2).trans rfl, (blk_cell BK220.out 3).trans rfl, hx245_0⟩ (fun hHeld => ?_); refine with_tabW racewaylaw6_ResidualReach.tab23 racewaylaw6_ResidualReach.bits23 (fun HT_ HW_ => ?_));(generalize wr.drew = w114 at HO_18 HO_20 HO_22 HO_26 HO_221003 BK220 HB hx245_0 hHeld ⊢);(refine pure_ (i := 1) (N := some 143) (v := ?_) (a' := ?_) #[false, true, false, false, false, false, false, false, false, false, false] rfl rfl (any_of HT_.out (by kernel_rfl)) (fun _ _ _ h => h) (Or.inl ⟨by rfl, ?_⟩) ?_ ?_)
                          rotate_left
                          ·intro w'
                           go_simp
                           with_reducible rfl
                          rotate_left
                          ·simp only [Act.put, List.setIfInBounds_toArray, List.set_cons_zero, List.set_cons_succ, i64_w, i32_w]
                           rfl
                          refine pure_ (i := 2) (N := some 144) (v := ?_) (a' := ?_) #[false, true, true, false, false, false, false, false, false, false, false] rfl rfl (any_of HT_.out (by kernel_rfl)) (fun _ _ _ h => h) (Or.inl ⟨by rfl, ?_⟩) ?_ ?_
                          rotate_left
                          ·intro w'
                           go_simp
                           with_reducible rfl
                          rotate_left
                          ·simp only [Act.put, List.setIfInBounds_toArray, List.set_cons_zero, List.set_cons_succ, i64_w, i32_w]
                           rfl
                          refine pure_ (i := 3) (N := some 145) (v := ?_) (a' := ?_) #[false, true, true, true, false, false, false, false, false, false, false] rfl rfl (any_of HT_.out (by kernel_rfl)) (fun _ _ _ h => h) (Or.inl ⟨by rfl, ?_⟩) ?_ ?_
                          rotate_left
                          ·intro w'
                           go_simp
                           with_reducible rfl
                          rotate_left
                          ·simp only [Act.put, List.setIfInBounds_toArray, List.set_cons_zero, List.set_cons_succ, i64_w, i32_w]
                           rfl
                          refine take_ (i := 0) (N := some 142) (v := ?_) (a' := ?_) #[true, true, true, true, false, false, false, false, false, false, false] rfl rfl (take_ofW HT_.out HW_.out (by kernel_rfl)) (fun _ _ _ h => h) (Or.inl ⟨by rfl, ?_⟩) hHeld ?_ ?_
                          rotate_left
                          ·rintro w' ⟨s0, s1, s2, s3, s4⟩
                           go_simp
                           with_reducible rfl
                          rotate_left
                          ·simp only [Act.put, List.setIfInBounds_toArray, List.set_cons_zero, List.set_cons_succ, i64_w, i32_w]
                           rfl
                          refine take_ (i := 4) (N := some 146) (v := ?_) (a' := ?_) #[true, true, true, true, true, false, false, false, false, false, false] rfl rfl (take_ofW HT_.out HW_.out (by kernel_rfl)) (fun _ _ _ h => h) (Or.inl ⟨by rfl, ?_⟩) hHeld ?_ ?_
                          rotate_left
                          ·rintro w' ⟨s0, s1, s2, s3, s4⟩
                           go_simp
                           with_reducible rfl
                          rotate_left
                          ·simp only [Act.put, List.setIfInBounds_toArray, List.set_cons_zero, List.set_cons_succ, i64_w, i32_w]
                           rfl
                          (refine one_ (i := 5) (N := some 147) #[true, true, true, true, true, true, false, false, false, false, false] rfl rfl (one_of HT_.out (by kernel_rfl)) (by decide) (fun K hK => ?_));(refine goes_ Try.func21 (by kernel_rfl) rfl #[.agg #[.int .i64 t214, .int .i64 t215, .int .i64 t216, .slice Ao23 t217.length co23], .int .i64 (rd t242 x27_4)] (by rfl) rfl rfl (by (try simp only [List.map_toArray, List.map_cons, List.map_nil]); first | done | rfl | (simp only [List.length_drop, List.length_take]; rfl)) ?_)
                          with_reducible refine (residual_Ends.calls k4 t214 t215 t216 _ _ t217 (rd t242 x27_4) t246 t247 _ ?side1 ?side2 A71.out).mono ?_
                          (case side1 => repeat (first | exact (Kd.R_reads' HO_221003.out).2.2 | (with_reducible refine Kd.C_alloc ?_ _) | (with_reducible refine Kd.C_drewN ?_ _) | (with_reducible refine Kd.C_drew ?_)))
                          (case side2 => exact (Kd.R_reads' HO_221003.out).2.1)
                          (rintro e w115 ⟨rfl, hb⟩);(have HS4_ := (hb.cell (World.block_lt_of_cell? _ _ (hHeld.2.2.2.2))).trans (hHeld.2.2.2.2));(refine ⟨_, rfl, ?_⟩);(have n0_ := Aside0.mk (Kd.R_below (by (with_reducible repeat first | apply Kd.R_alloc | apply Kd.R_drewN | apply Kd.R_drew); exact HO_18.out) hb));(have n1_ := Aside0.mk (Kd.R_below (by (with_reducible repeat first | apply Kd.R_alloc | apply Kd.R_drewN | apply Kd.R_drew); exact HO_20.out) hb));(have n2_ := Aside0.mk (Kd.R_below (by (with_reducible repeat first | apply Kd.R_alloc | apply Kd.R_drewN | apply Kd.R_drew); exact HO_22.out) hb));(have n3_ := Aside0.mk (Kd.R_below (by (with_reducible repeat first | apply Kd.R_alloc | apply Kd.R_drewN | apply Kd.R_drew); exact HO_26.out) hb));(have n4_ := Aside0.mk (Kd.R_below (by (with_reducible repeat first | apply Kd.R_alloc | apply Kd.R_drewN | apply Kd.R_drew); exact HO_221003.out) hb));(have n5_ := Aside0.mk (blk_below (g := gb220) (o := .cells #[.int .i64 t214, .int .i64 t215, .int .i64 t216, .slice Ao23 t217.length co23] 27 (0, 0)) (by (with_reducible repeat first | refine blk_drewN ?_ _ | refine blk_drew ?_ | refine blk_alloc ?_ _); exact BK220.out) hb));(have n6_ := Aside0.mk (below_step (by repeat (first | (with_reducible first | exact HB.out | apply below_alloc | apply pw_below_drewN | apply below_drew1 | refine below_set ?_ GE220.out) | exact HB.out)) hb));(clear HO_18);(clear HO_20);(clear HO_22);(clear HO_26);(clear HO_221003);(clear BK220);(clear HB);(have HO_18 := n0_);(have HO_20 := n1_);(have HO_22 := n2_);(have HO_26 := n3_);(have HO_221003 := n4_);(have BK220 := n5_);(have HB := n6_);(clear n0_ n1_ n2_ n3_ n4_ n5_ n6_);((try clear hb));((try clear hb2));((try clear hk));((try clear hi));(refine hK.out _ _ ⟨(blk_cell BK220.out 0).trans rfl, (blk_cell BK220.out 1).trans rfl, (blk_cell BK220.out 2).trans rfl, (blk_cell BK220.out 3).trans rfl, HS4_⟩ (fun hHeld => ?_));(clear hK K);(refine norm_ (a' := ?_) ?_ ?_)
                          rotate_left
                          ·show Act.put _ (some 147) _ = _
                           simp only [Act.put, List.setIfInBounds_toArray, List.set_cons_zero, List.set_cons_succ, i64_w, i32_w]
                           rfl
                          refine pure_ (i := 6) (N := some 141) (v := ?_) (a' := ?_) #[true, true, true, true, true, true, true, false, false, false, false] rfl rfl (any_of HT_.out (by kernel_rfl)) (fun _ _ _ h => h) (Or.inl ⟨by rfl, ?_⟩) ?_ ?_
                          rotate_left
                          ·intro w'
                           go_simp
                           with_reducible rfl
                          rotate_left
                          ·simp only [Act.put, List.setIfInBounds_toArray, List.set_cons_zero, List.set_cons_succ, i64_w, i32_w]
                           rfl
                          refine pure_ (i := 7) (N := some 148) (v := ?_) (a' := ?_) #[true, true, true, true, true, true, true, true, false, false, false] rfl rfl (any_of HT_.out (by kernel_rfl)) (fun _ _ _ h => h) (Or.inl ⟨by rfl, ?_⟩) ?_ ?_
                          rotate_left
                          ·intro w'
                           go_simp
                           with_reducible rfl
                          rotate_left
                          ·simp only [Act.put, List.setIfInBounds_toArray, List.set_cons_zero, List.set_cons_succ, i64_w, i32_w]
                           rfl
                          refine pure_ (i := 8) (N := some 149) (v := ?_) (a' := ?_) #[true, true, true, true, true, true, true, true, true, false, false] rfl rfl (any_of HT_.out (by kernel_rfl)) (fun _ _ _ h => h) (Or.inl ⟨by rfl, ?_⟩) ?_ ?_
                          rotate_left
                          ·intro w'
                           go_simp
                           with_reducible rfl
                          rotate_left
                          ·simp only [Act.put, List.setIfInBounds_toArray, List.set_cons_zero, List.set_cons_succ, i64_w, i32_w]
                           rfl
                          refine pure_ (i := 9) (N := some 28) (v := ?_) (a' := ?_) #[true, true, true, true, true, true, true, true, true, true, false] rfl rfl (any_of HT_.out (by kernel_rfl)) (fun _ _ _ h => h) (Or.inl ⟨by rfl, ?_⟩) ?_ ?_
                          rotate_left
                          ·intro w'
                           go_simp
                           with_reducible rfl
                          rotate_left
                          ·simp only [Act.put, List.setIfInBounds_toArray, List.set_cons_zero, List.set_cons_succ, i64_w, i32_w]
                           rfl
                          refine pure_ (i := 10) (N := some 29) (v := ?_) (a' := ?_) #[true, true, true, true, true, true, true, true, true, true, true] rfl rfl (any_of HT_.out (by kernel_rfl)) (fun _ _ _ h => h) (Or.inl ⟨by rfl, ?_⟩) ?_ ?_
                          rotate_left
                          ·intro w'
                           go_simp
                           with_reducible rfl
                          rotate_left
                          ·simp only [Act.put, List.setIfInBounds_toArray, List.set_cons_zero, List.set_cons_succ, i64_w, i32_w]
                           rfl
                          (refine done_ (done_of HT_.out (by kernel_rfl)) ?_);(obtain ⟨Ao116, co116, eo116⟩ := Kd.R_slice HO_20.out);(subst eo116);(have p248 : 0 ≤ (x24_2 : Int) := of_decide_eq_true (by first | (with_reducible assumption) | assumption));(have q248 : x24_2 < (t230.length : Int) := of_decide_eq_true (by first | (with_reducible assumption) | assumption));(obtain ⟨ad248, e248, hx248_0⟩ := Kd.at_bool (Kd.R_reads' HO_20.out).2.2 x24_2 p248 q248);((try rw [← Nbq74.out] at hx248_0));((try rw [← Nbq104.out] at hx248_0));(cases e248);(replace p248 := eq_true p248);(replace q248 := eq_true q248);(have p249 : 0 ≤ (x27_4 : Int) := of_decide_eq_true (by first | (with_reducible assumption) | assumption));(have q249 : x27_4 < (t242.length : Int) := of_decide_eq_true (by first | (with_reducible assumption) | assumption));(obtain ⟨ad249, e249, hx249_0⟩ := Kd.at_int (Kd.R_reads' HO_26.out).2.2 x27_4 p249 q249);(obtain rfl : ad245 = ad249 := (by injection e249));(replace p249 := eq_true p249);(replace q249 := eq_true q249);(obtain ⟨Ao117, co117, eo117⟩ := Kd.R_slice HO_18.out);(subst eo117);(have p250 : 0 ≤ ((rd t242 x27_4) : Int) := of_decide_eq_true (by first | (with_reducible assumption) | assumption));(have q250 : (rd t242 x27_4) < (t226.length : Int) := of_decide_eq_true (by first | (with_reducible assumption) | assumption));(obtain ⟨ad250, e250, hx250_0⟩ := Kd.at_int (Kd.R_reads' HO_18.out).2.2 (rd t242 x27_4) p250 q250);(cases e250);(replace p250 := eq_true p250);(replace q250 := eq_true q250);(have p255 : 0 ≤ (t247 : Int) := of_decide_eq_true (by first | (with_reducible assumption) | assumption));(have q255 : t247 < (t230.length : Int) := of_decide_eq_true (by first | (with_reducible assumption) | assumption));(obtain ⟨ad255, e255, hx255_0⟩ := Kd.at_bool (Kd.R_reads' HO_20.out).2.2 t247 p255 q255);((try rw [← Nbq74.out] at hx255_0));((try rw [← Nbq104.out] at hx255_0));(obtain rfl : ad248 = ad255 := (by injection e255));(replace p255 := eq_true p255);(replace q255 := eq_true q255)
                          try go_wp2
                          go_roundg k4
                          case measure => have := HJ17.out; have := HK2.out; have := HJ54.out; have := HK4.out; omega
                          case rel => exact ⟨(false), (wrap64 (x27_4 + 1)), (by first | rfl | (simp; done) | (simp [*]; done)), (by first | rfl | (simp; done) | (simp [*]; done)), H', ⟨by have := HJ17.out; have := HK2.out; have := HJ54.out; have := HK4.out; omega⟩, ⟨by (with_reducible repeat first | apply Kd.R_alloc | apply Kd.R_drewN | apply Kd.R_drew); exact HO_18.out⟩, ⟨by (with_reducible repeat first | apply Kd.R_alloc | apply Kd.R_drewN | apply Kd.R_drew); exact HO_20.out⟩, ⟨by (with_reducible repeat first | apply Kd.R_alloc | apply Kd.R_drewN | apply Kd.R_drew); exact HO_22.out⟩, ⟨by (with_reducible repeat first | apply Kd.R_alloc | apply Kd.R_drewN | apply Kd.R_drew); exact HO_26.out⟩, ⟨by (with_reducible repeat first | apply Kd.R_alloc | apply Kd.R_drewN | apply Kd.R_drew); exact HO_221003.out⟩, ⟨by (with_reducible repeat first | refine blk_drewN ?_ _ | refine blk_drew ?_ | refine blk_alloc ?_ _); exact BK220.out⟩, ⟨by repeat (first | (with_reducible first | exact HB.out | apply below_alloc | apply pw_below_drewN | apply below_drew1 | refine below_set ?_ GE220.out) | exact HB.out)⟩⟩
                       ·(rw [if_neg c103] at H);(exact absurd H (by simp))
                      ·(rw [if_neg c102] at H);(exact absurd H (by simp))
                   ·(rw [if_neg c77] at H);(exact absurd H (by simp))
                  ·(rw [if_neg c76] at H);(exact absurd H (by simp))
                 ·(replace c75 := Bool.eq_false_iff.mpr c75);(subst c75);(have H1 : (if x25_4 = true then (racewaylaw6_ResidualReach.l1 k4 (wrap64 (1 + (ji13))) t226 t230 t234 x24_2 true t242 (wrap64 (x27_4 + 1)) t214 t215 t216 t217) else (if 0 ≤ t247 then (if t247 < (t230.length : Int) then (if rdOf false t230 t247 = true then (if 0 ≤ (Go.bits .xor .i64 (rd t242 x27_4) 1) then (if (Go.bits .xor .i64 (rd t242 x27_4) 1) < (t226.length : Int) then (racewaylaw6_ResidualReach.l1 k4 (wrap64 (1 + (ji13))) t226 t230 t234 x24_2 (decide ((rd t226 (Go.bits .xor .i64 (rd t242 x27_4) 1)) ≥ (wrap64 (1 + (ji13))))) t242 (wrap64 (x27_4 + 1)) t214 t215 t216 t217) else (none)) else (none)) else (racewaylaw6_ResidualReach.l1 k4 (wrap64 (1 + (ji13))) t226 t230 t234 x24_2 false t242 (wrap64 (x27_4 + 1)) t214 t215 t216 t217)) else (none)) else (none))) = some r := by rw [if_neg (show ¬ (false = true) by decide)] at H; exact H);(clear H);(have H := H1);(clear H1)
                  by_cases c118 : x25_4 = true
                  ·(subst c118);(have H1 : (racewaylaw6_ResidualReach.l1 k4 (wrap64 (1 + (ji13))) t226 t230 t234 x24_2 true t242 (wrap64 (x27_4 + 1)) t214 t215 t216 t217) = some r := by rw [if_pos rfl] at H; exact H);(clear H);(have H := H1);(clear H1)
                   as_aux_lemma =>
                    (have H' := Aside0.mk H);(clear H);(obtain ⟨Ao119, co119, eo119⟩ := Kd.R_slice HO_26.out);(subst eo119)
                    try go_wp2
                    (have n0_ := Aside0.mk (Kd.R_drew HO_18.out));(have n1_ := Aside0.mk (Kd.R_drew HO_20.out));(have n2_ := Aside0.mk (Kd.R_drew HO_22.out));(have n3_ := Aside0.mk (Kd.R_drew HO_26.out));(have n4_ := Aside0.mk (Kd.R_drew HO_221003.out));(have n5_ := Aside0.mk (blk_drew BK220.out));(have n6_ := Aside0.mk (below_drew1 HB.out));(clear HO_18);(clear HO_20);(clear HO_22);(clear HO_26);(clear HO_221003);(clear BK220);(clear HB);(have HO_18 := n0_);(have HO_20 := n1_);(have HO_22 := n2_);(have HO_26 := n3_);(have HO_221003 := n4_);(have BK220 := n5_);(have HB := n6_);(clear n0_ n1_ n2_ n3_ n4_ n5_ n6_);(have p245 : 0 ≤ (x27_4 : Int) := of_decide_eq_true (by first | (with_reducible assumption) | assumption));(have q245 : x27_4 < (t242.length : Int) := of_decide_eq_true (by first | (with_reducible assumption) | assumption));(obtain ⟨ad245, e245, hx245_0⟩ := Kd.at_int (Kd.R_reads' HO_26.out).2.2 x27_4 p245 q245);(cases e245);(replace p245 := eq_true p245);(replace q245 := eq_true q245);(refine start_ (n := 11) (S := fun w' => w'.cell? ⟨gb220, 0, none⟩ = some (.int .i64 t214) ∧ w'.cell? ⟨gb220, 1, none⟩ = some (.int .i64 t215) ∧ w'.cell? ⟨gb220, 2, none⟩ = some (.int .i64 t216) ∧ w'.cell? ⟨gb220, 3, none⟩ = some (.slice Ao23 t217.length co23) ∧ w'.cell? (ad245.add (x27_4).toNat) = some (.int .i64 (rd t242 x27_4))) (ds := []) #[false, false, false, false, false, false, false, false, false, false, false] (by kernel_rfl) rfl rfl ⟨(blk_cell BK220.out 0).trans rfl, (blk_cell BK220.out 1).trans rfl, (blk_cell BK220.out 2).trans rfl, (blk_cell BK220.out 3).trans rfl, hx245_0⟩ (fun hHeld => ?_); refine with_tabW racewaylaw6_ResidualReach.tab23 racewaylaw6_ResidualReach.bits23 (fun HT_ HW_ => ?_));(generalize wr.drew = w120 at HO_18 HO_20 HO_22 HO_26 HO_221003 BK220 HB hx245_0 hHeld ⊢);(refine pure_ (i := 1) (N := some 143) (v := ?_) (a' := ?_) #[false, true, false, false, false, false, false, false, false, false, false] rfl rfl (any_of HT_.out (by kernel_rfl)) (fun _ _ _ h => h) (Or.inl ⟨by rfl, ?_⟩) ?_ ?_)
                    rotate_left
                    ·intro w'
                     go_simp
                     with_reducible rfl
                    rotate_left
                    ·simp only [Act.put, List.setIfInBounds_toArray, List.set_cons_zero, List.set_cons_succ, i64_w, i32_w]
                     rfl
                    refine pure_ (i := 2) (N := some 144) (v := ?_) (a' := ?_) #[false, true, true, false, false, false, false, false, false, false, false] rfl rfl (any_of HT_.out (by kernel_rfl)) (fun _ _ _ h => h) (Or.inl ⟨by rfl, ?_⟩) ?_ ?_
                    rotate_left
                    ·intro w'
                     go_simp
                     with_reducible rfl
                    rotate_left
                    ·simp only [Act.put, List.setIfInBounds_toArray, List.set_cons_zero, List.set_cons_succ, i64_w, i32_w]
                     rfl
                    refine pure_ (i := 3) (N := some 145) (v := ?_) (a' := ?_) #[false, true, true, true, false, false, false, false, false, false, false] rfl rfl (any_of HT_.out (by kernel_rfl)) (fun _ _ _ h => h) (Or.inl ⟨by rfl, ?_⟩) ?_ ?_
                    rotate_left
                    ·intro w'
                     go_simp
                     with_reducible rfl
                    rotate_left
                    ·simp only [Act.put, List.setIfInBounds_toArray, List.set_cons_zero, List.set_cons_succ, i64_w, i32_w]
                     rfl
                    refine take_ (i := 0) (N := some 142) (v := ?_) (a' := ?_) #[true, true, true, true, false, false, false, false, false, false, false] rfl rfl (take_ofW HT_.out HW_.out (by kernel_rfl)) (fun _ _ _ h => h) (Or.inl ⟨by rfl, ?_⟩) hHeld ?_ ?_
                    rotate_left
                    ·rintro w' ⟨s0, s1, s2, s3, s4⟩
                     go_simp
                     with_reducible rfl
                    rotate_left
                    ·simp only [Act.put, List.setIfInBounds_toArray, List.set_cons_zero, List.set_cons_succ, i64_w, i32_w]
                     rfl
                    refine take_ (i := 4) (N := some 146) (v := ?_) (a' := ?_) #[true, true, true, true, true, false, false, false, false, false, false] rfl rfl (take_ofW HT_.out HW_.out (by kernel_rfl)) (fun _ _ _ h => h) (Or.inl ⟨by rfl, ?_⟩) hHeld ?_ ?_
                    rotate_left
                    ·rintro w' ⟨s0, s1, s2, s3, s4⟩
                     go_simp
                     with_reducible rfl
                    rotate_left
                    ·simp only [Act.put, List.setIfInBounds_toArray, List.set_cons_zero, List.set_cons_succ, i64_w, i32_w]
                     rfl
                    (refine one_ (i := 5) (N := some 147) #[true, true, true, true, true, true, false, false, false, false, false] rfl rfl (one_of HT_.out (by kernel_rfl)) (by decide) (fun K hK => ?_));(refine goes_ Try.func21 (by kernel_rfl) rfl #[.agg #[.int .i64 t214, .int .i64 t215, .int .i64 t216, .slice Ao23 t217.length co23], .int .i64 (rd t242 x27_4)] (by rfl) rfl rfl (by (try simp only [List.map_toArray, List.map_cons, List.map_nil]); first | done | rfl | (simp only [List.length_drop, List.length_take]; rfl)) ?_)
                    with_reducible refine (residual_Ends.calls k4 t214 t215 t216 _ _ t217 (rd t242 x27_4) t246 t247 _ ?side1 ?side2 A71.out).mono ?_
                    (case side1 => repeat (first | exact (Kd.R_reads' HO_221003.out).2.2 | (with_reducible refine Kd.C_alloc ?_ _) | (with_reducible refine Kd.C_drewN ?_ _) | (with_reducible refine Kd.C_drew ?_)))
                    (case side2 => exact (Kd.R_reads' HO_221003.out).2.1)
                    (rintro e w121 ⟨rfl, hb⟩);(have HS4_ := (hb.cell (World.block_lt_of_cell? _ _ (hHeld.2.2.2.2))).trans (hHeld.2.2.2.2));(refine ⟨_, rfl, ?_⟩);(have n0_ := Aside0.mk (Kd.R_below (by (with_reducible repeat first | apply Kd.R_alloc | apply Kd.R_drewN | apply Kd.R_drew); exact HO_18.out) hb));(have n1_ := Aside0.mk (Kd.R_below (by (with_reducible repeat first | apply Kd.R_alloc | apply Kd.R_drewN | apply Kd.R_drew); exact HO_20.out) hb));(have n2_ := Aside0.mk (Kd.R_below (by (with_reducible repeat first | apply Kd.R_alloc | apply Kd.R_drewN | apply Kd.R_drew); exact HO_22.out) hb));(have n3_ := Aside0.mk (Kd.R_below (by (with_reducible repeat first | apply Kd.R_alloc | apply Kd.R_drewN | apply Kd.R_drew); exact HO_26.out) hb));(have n4_ := Aside0.mk (Kd.R_below (by (with_reducible repeat first | apply Kd.R_alloc | apply Kd.R_drewN | apply Kd.R_drew); exact HO_221003.out) hb));(have n5_ := Aside0.mk (blk_below (g := gb220) (o := .cells #[.int .i64 t214, .int .i64 t215, .int .i64 t216, .slice Ao23 t217.length co23] 27 (0, 0)) (by (with_reducible repeat first | refine blk_drewN ?_ _ | refine blk_drew ?_ | refine blk_alloc ?_ _); exact BK220.out) hb));(have n6_ := Aside0.mk (below_step (by repeat (first | (with_reducible first | exact HB.out | apply below_alloc | apply pw_below_drewN | apply below_drew1 | refine below_set ?_ GE220.out) | exact HB.out)) hb));(clear HO_18);(clear HO_20);(clear HO_22);(clear HO_26);(clear HO_221003);(clear BK220);(clear HB);(have HO_18 := n0_);(have HO_20 := n1_);(have HO_22 := n2_);(have HO_26 := n3_);(have HO_221003 := n4_);(have BK220 := n5_);(have HB := n6_);(clear n0_ n1_ n2_ n3_ n4_ n5_ n6_);((try clear hb));((try clear hb2));((try clear hk));((try clear hi));(refine hK.out _ _ ⟨(blk_cell BK220.out 0).trans rfl, (blk_cell BK220.out 1).trans rfl, (blk_cell BK220.out 2).trans rfl, (blk_cell BK220.out 3).trans rfl, HS4_⟩ (fun hHeld => ?_));(clear hK K);(refine norm_ (a' := ?_) ?_ ?_)
                    rotate_left
                    ·show Act.put _ (some 147) _ = _
                     simp only [Act.put, List.setIfInBounds_toArray, List.set_cons_zero, List.set_cons_succ, i64_w, i32_w]
                     rfl
                    refine pure_ (i := 6) (N := some 141) (v := ?_) (a' := ?_) #[true, true, true, true, true, true, true, false, false, false, false] rfl rfl (any_of HT_.out (by kernel_rfl)) (fun _ _ _ h => h) (Or.inl ⟨by rfl, ?_⟩) ?_ ?_
                    rotate_left
                    ·intro w'
                     go_simp
                     with_reducible rfl
                    rotate_left
                    ·simp only [Act.put, List.setIfInBounds_toArray, List.set_cons_zero, List.set_cons_succ, i64_w, i32_w]
                     rfl
                    refine pure_ (i := 7) (N := some 148) (v := ?_) (a' := ?_) #[true, true, true, true, true, true, true, true, false, false, false] rfl rfl (any_of HT_.out (by kernel_rfl)) (fun _ _ _ h => h) (Or.inl ⟨by rfl, ?_⟩) ?_ ?_
                    rotate_left
                    ·intro w'
                     go_simp
                     with_reducible rfl
                    rotate_left
                    ·simp only [Act.put, List.setIfInBounds_toArray, List.set_cons_zero, List.set_cons_succ, i64_w, i32_w]
                     rfl
                    refine pure_ (i := 8) (N := some 149) (v := ?_) (a' := ?_) #[true, true, true, true, true, true, true, true, true, false, false] rfl rfl (any_of HT_.out (by kernel_rfl)) (fun _ _ _ h => h) (Or.inl ⟨by rfl, ?_⟩) ?_ ?_
                    rotate_left
                    ·intro w'
                     go_simp
                     with_reducible rfl
                    rotate_left
                    ·simp only [Act.put, List.setIfInBounds_toArray, List.set_cons_zero, List.set_cons_succ, i64_w, i32_w]
                     rfl
                    refine pure_ (i := 9) (N := some 28) (v := ?_) (a' := ?_) #[true, true, true, true, true, true, true, true, true, true, false] rfl rfl (any_of HT_.out (by kernel_rfl)) (fun _ _ _ h => h) (Or.inl ⟨by rfl, ?_⟩) ?_ ?_
                    rotate_left
                    ·intro w'
                     go_simp
                     with_reducible rfl
                    rotate_left
                    ·simp only [Act.put, List.setIfInBounds_toArray, List.set_cons_zero, List.set_cons_succ, i64_w, i32_w]
                     rfl
                    refine pure_ (i := 10) (N := some 29) (v := ?_) (a' := ?_) #[true, true, true, true, true, true, true, true, true, true, true] rfl rfl (any_of HT_.out (by kernel_rfl)) (fun _ _ _ h => h) (Or.inl ⟨by rfl, ?_⟩) ?_ ?_
                    rotate_left
                    ·intro w'
                     go_simp
                     with_reducible rfl
                    rotate_left
                    ·simp only [Act.put, List.setIfInBounds_toArray, List.set_cons_zero, List.set_cons_succ, i64_w, i32_w]
                     rfl
                    (refine done_ (done_of HT_.out (by kernel_rfl)) ?_);(obtain ⟨Ao122, co122, eo122⟩ := Kd.R_slice HO_20.out);(subst eo122);(have p248 : 0 ≤ (x24_2 : Int) := of_decide_eq_true (by first | (with_reducible assumption) | assumption));(have q248 : x24_2 < (t230.length : Int) := of_decide_eq_true (by first | (with_reducible assumption) | assumption));(obtain ⟨ad248, e248, hx248_0⟩ := Kd.at_bool (Kd.R_reads' HO_20.out).2.2 x24_2 p248 q248);((try rw [← Nbq74.out] at hx248_0));(cases e248);(replace p248 := eq_true p248);(replace q248 := eq_true q248)
                    try go_wp2
                    go_roundg k4
                    case measure => have := HJ17.out; have := HK2.out; have := HJ54.out; have := HK4.out; omega
                    case rel => exact ⟨(true), (wrap64 (x27_4 + 1)), (by first | rfl | (simp; done) | (simp [*]; done)), (by first | rfl | (simp; done) | (simp [*]; done)), H', ⟨by have := HJ17.out; have := HK2.out; have := HJ54.out; have := HK4.out; omega⟩, ⟨by (with_reducible repeat first | apply Kd.R_alloc | apply Kd.R_drewN | apply Kd.R_drew); exact HO_18.out⟩, ⟨by (with_reducible repeat first | apply Kd.R_alloc | apply Kd.R_drewN | apply Kd.R_drew); exact HO_20.out⟩, ⟨by (with_reducible repeat first | apply Kd.R_alloc | apply Kd.R_drewN | apply Kd.R_drew); exact HO_22.out⟩, ⟨by (with_reducible repeat first | apply Kd.R_alloc | apply Kd.R_drewN | apply Kd.R_drew); exact HO_26.out⟩, ⟨by (with_reducible repeat first | apply Kd.R_alloc | apply Kd.R_drewN | apply Kd.R_drew); exact HO_221003.out⟩, ⟨by (with_reducible repeat first | refine blk_drewN ?_ _ | refine blk_drew ?_ | refine blk_alloc ?_ _); exact BK220.out⟩, ⟨by repeat (first | (with_reducible first | exact HB.out | apply below_alloc | apply pw_below_drewN | apply below_drew1 | refine below_set ?_ GE220.out) | exact HB.out)⟩⟩
                  ·(replace c118 := Bool.eq_false_iff.mpr c118);(subst c118);(have H1 : (if 0 ≤ t247 then (if t247 < (t230.length : Int) then (if rdOf false t230 t247 = true then (if 0 ≤ (Go.bits .xor .i64 (rd t242 x27_4) 1) then (if (Go.bits .xor .i64 (rd t242 x27_4) 1) < (t226.length : Int) then (racewaylaw6_ResidualReach.l1 k4 (wrap64 (1 + (ji13))) t226 t230 t234 x24_2 (decide ((rd t226 (Go.bits .xor .i64 (rd t242 x27_4) 1)) ≥ (wrap64 (1 + (ji13))))) t242 (wrap64 (x27_4 + 1)) t214 t215 t216 t217) else (none)) else (none)) else (racewaylaw6_ResidualReach.l1 k4 (wrap64 (1 + (ji13))) t226 t230 t234 x24_2 false t242 (wrap64 (x27_4 + 1)) t214 t215 t216 t217)) else (none)) else (none)) = some r := by rw [if_neg (show ¬ (false = true) by decide)] at H; exact H);(clear H);(have H := H1);(clear H1)
                   by_cases c123 : 0 ≤ t247
                   ·(rw [if_pos c123] at H);(have c123b0 : decide (0 ≤ t247) = true := decide_eq_true c123);(clear c123)
                    by_cases c124 : t247 < (t230.length : Int)
                    ·(rw [if_pos c124] at H);(have c124b0 : decide (t247 < (t230.length : Int)) = true := decide_eq_true c124);(clear c124);(obtain ⟨bq125, hbq125⟩ : ∃ b_ : Bool, b_ = (rdOf false t230 t247) := ⟨_, rfl⟩);(replace H : (if bq125 = true then (if 0 ≤ (Go.bits .xor .i64 (rd t242 x27_4) 1) then (if (Go.bits .xor .i64 (rd t242 x27_4) 1) < (t226.length : Int) then (racewaylaw6_ResidualReach.l1 k4 (wrap64 (1 + (ji13))) t226 t230 t234 x24_2 (decide ((rd t226 (Go.bits .xor .i64 (rd t242 x27_4) 1)) ≥ (wrap64 (1 + (ji13))))) t242 (wrap64 (x27_4 + 1)) t214 t215 t216 t217) else (none)) else (none)) else (racewaylaw6_ResidualReach.l1 k4 (wrap64 (1 + (ji13))) t226 t230 t234 x24_2 false t242 (wrap64 (x27_4 + 1)) t214 t215 t216 t217)) = some r := by rw [← hbq125] at H; exact H);(have Nbq125 := Aside0.mk hbq125);(clear hbq125)
                     by_cases c126 : bq125 = true
                     ·(subst c126);(have H1 : (if 0 ≤ (Go.bits .xor .i64 (rd t242 x27_4) 1) then (if (Go.bits .xor .i64 (rd t242 x27_4) 1) < (t226.length : Int) then (racewaylaw6_ResidualReach.l1 k4 (wrap64 (1 + (ji13))) t226 t230 t234 x24_2 (decide ((rd t226 (Go.bits .xor .i64 (rd t242 x27_4) 1)) ≥ (wrap64 (1 + (ji13))))) t242 (wrap64 (x27_4 + 1)) t214 t215 t216 t217) else (none)) else (none)) = some r := by rw [if_pos rfl] at H; exact H);(clear H);(have H := H1);(clear H1)
                      by_cases c127 : 0 ≤ (Go.bits .xor .i64 (rd t242 x27_4) 1)
                      ·(rw [if_pos c127] at H);(have c127b0 : decide (0 ≤ (Go.bits .xor .i64 (rd t242 x27_4) 1)) = true := decide_eq_true c127);(clear c127)
                       by_cases c128 : (Go.bits .xor .i64 (rd t242 x27_4) 1) < (t226.length : Int)
                       ·(rw [if_pos c128] at H);(have c128b0 : decide ((Go.bits .xor .i64 (rd t242 x27_4) 1) < (t226.length : Int)) = true := decide_eq_true c128);(clear c128)
                        as_aux_lemma =>
                         (have H' := Aside0.mk H);(clear H);(obtain ⟨Ao129, co129, eo129⟩ := Kd.R_slice HO_26.out);(subst eo129)
                         try go_wp2
                         (have n0_ := Aside0.mk (Kd.R_drew HO_18.out));(have n1_ := Aside0.mk (Kd.R_drew HO_20.out));(have n2_ := Aside0.mk (Kd.R_drew HO_22.out));(have n3_ := Aside0.mk (Kd.R_drew HO_26.out));(have n4_ := Aside0.mk (Kd.R_drew HO_221003.out));(have n5_ := Aside0.mk (blk_drew BK220.out));(have n6_ := Aside0.mk (below_drew1 HB.out));(clear HO_18);(clear HO_20);(clear HO_22);(clear HO_26);(clear HO_221003);(clear BK220);(clear HB);(have HO_18 := n0_);(have HO_20 := n1_);(have HO_22 := n2_);(have HO_26 := n3_);(have HO_221003 := n4_);(have BK220 := n5_);(have HB := n6_);(clear n0_ n1_ n2_ n3_ n4_ n5_ n6_);(have p245 : 0 ≤ (x27_4 : Int) := of_decide_eq_true (by first | (with_reducible assumption) | assumption));(have q245 : x27_4 < (t242.length : Int) := of_decide_eq_true (by first | (with_reducible assumption) | assumption));(obtain ⟨ad245, e245, hx245_0⟩ := Kd.at_int (Kd.R_reads' HO_26.out).2.2 x27_4 p245 q245);(cases e245);(replace p245 := eq_true p245);(replace q245 := eq_true q245);(refine start_ (n := 11) (S := fun w' => w'.cell? ⟨gb220, 0, none⟩ = some (.int .i64 t214) ∧ w'.cell? ⟨gb220, 1, none⟩ = some (.int .i64 t215) ∧ w'.cell? ⟨gb220, 2, none⟩ = some (.int .i64 t216) ∧ w'.cell? ⟨gb220, 3, none⟩ = some (.slice Ao23 t217.length co23) ∧ w'.cell? (ad245.add (x27_4).toNat) = some (.int .i64 (rd t242 x27_4))) (ds := []) #[false, false, false, false, false, false, false, false, false, false, false] (by kernel_rfl) rfl rfl ⟨(blk_cell BK220.out 0).trans rfl, (blk_cell BK220.out 1).trans rfl, (blk_cell BK220.out 2).trans rfl, (blk_cell BK220.out 3).trans rfl, hx245_0⟩ (fun hHeld => ?_); refine with_tabW racewaylaw6_ResidualReach.tab23 racewaylaw6_ResidualReach.bits23 (fun HT_ HW_ => ?_));(generalize wr.drew = w130 at HO_18 HO_20 HO_22 HO_26 HO_221003 BK220 HB hx245_0 hHeld ⊢);(refine pure_ (i := 1) (N := some 143) (v := ?_) (a' := ?_) #[false, true, false, false, false, false, false, false, false, false, false] rfl rfl (any_of HT_.out (by kernel_rfl)) (fun _ _ _ h => h) (Or.inl ⟨by rfl, ?_⟩) ?_ ?_)
                         rotate_left
                         ·intro w'
                          go_simp
                          with_reducible rfl
                         rotate_left
                         ·simp only [Act.put, List.setIfInBounds_toArray, List.set_cons_zero, List.set_cons_succ, i64_w, i32_w]
                          rfl
                         refine pure_ (i := 2) (N := some 144) (v := ?_) (a' := ?_) #[false, true, true, false, false, false, false, false, false, false, false] rfl rfl (any_of HT_.out (by kernel_rfl)) (fun _ _ _ h => h) (Or.inl ⟨by rfl, ?_⟩) ?_ ?_
                         rotate_left
                         ·intro w'
                          go_simp
                          with_reducible rfl
                         rotate_left
                         ·simp only [Act.put, List.setIfInBounds_toArray, List.set_cons_zero, List.set_cons_succ, i64_w, i32_w]
                          rfl
                         refine pure_ (i := 3) (N := some 145) (v := ?_) (a' := ?_) #[false, true, true, true, false, false, false, false, false, false, false] rfl rfl (any_of HT_.out (by kernel_rfl)) (fun _ _ _ h => h) (Or.inl ⟨by rfl, ?_⟩) ?_ ?_
                         rotate_left
                         ·intro w'
                          go_simp
                          with_reducible rfl
                         rotate_left
                         ·simp only [Act.put, List.setIfInBounds_toArray, List.set_cons_zero, List.set_cons_succ, i64_w, i32_w]
                          rfl
                         refine take_ (i := 0) (N := some 142) (v := ?_) (a' := ?_) #[true, true, true, true, false, false, false, false, false, false, false] rfl rfl (take_ofW HT_.out HW_.out (by kernel_rfl)) (fun _ _ _ h => h) (Or.inl ⟨by rfl, ?_⟩) hHeld ?_ ?_
                         rotate_left
                         ·rintro w' ⟨s0, s1, s2, s3, s4⟩
                          go_simp
                          with_reducible rfl
                         rotate_left
                         ·simp only [Act.put, List.setIfInBounds_toArray, List.set_cons_zero, List.set_cons_succ, i64_w, i32_w]
                          rfl
                         refine take_ (i := 4) (N := some 146) (v := ?_) (a' := ?_) #[true, true, true, true, true, false, false, false, false, false, false] rfl rfl (take_ofW HT_.out HW_.out (by kernel_rfl)) (fun _ _ _ h => h) (Or.inl ⟨by rfl, ?_⟩) hHeld ?_ ?_
                         rotate_left
                         ·rintro w' ⟨s0, s1, s2, s3, s4⟩
                          go_simp
                          with_reducible rfl
                         rotate_left
                         ·simp only [Act.put, List.setIfInBounds_toArray, List.set_cons_zero, List.set_cons_succ, i64_w, i32_w]
                          rfl
                         (refine one_ (i := 5) (N := some 147) #[true, true, true, true, true, true, false, false, false, false, false] rfl rfl (one_of HT_.out (by kernel_rfl)) (by decide) (fun K hK => ?_));(refine goes_ Try.func21 (by kernel_rfl) rfl #[.agg #[.int .i64 t214, .int .i64 t215, .int .i64 t216, .slice Ao23 t217.length co23], .int .i64 (rd t242 x27_4)] (by rfl) rfl rfl (by (try simp only [List.map_toArray, List.map_cons, List.map_nil]); first | done | rfl | (simp only [List.length_drop, List.length_take]; rfl)) ?_)
                         with_reducible refine (residual_Ends.calls k4 t214 t215 t216 _ _ t217 (rd t242 x27_4) t246 t247 _ ?side1 ?side2 A71.out).mono ?_
                         (case side1 => repeat (first | exact (Kd.R_reads' HO_221003.out).2.2 | (with_reducible refine Kd.C_alloc ?_ _) | (with_reducible refine Kd.C_drewN ?_ _) | (with_reducible refine Kd.C_drew ?_)))
                         (case side2 => exact (Kd.R_reads' HO_221003.out).2.1)
                         (rintro e w131 ⟨rfl, hb⟩);(have HS4_ := (hb.cell (World.block_lt_of_cell? _ _ (hHeld.2.2.2.2))).trans (hHeld.2.2.2.2));(refine ⟨_, rfl, ?_⟩);(have n0_ := Aside0.mk (Kd.R_below (by (with_reducible repeat first | apply Kd.R_alloc | apply Kd.R_drewN | apply Kd.R_drew); exact HO_18.out) hb));(have n1_ := Aside0.mk (Kd.R_below (by (with_reducible repeat first | apply Kd.R_alloc | apply Kd.R_drewN | apply Kd.R_drew); exact HO_20.out) hb));(have n2_ := Aside0.mk (Kd.R_below (by (with_reducible repeat first | apply Kd.R_alloc | apply Kd.R_drewN | apply Kd.R_drew); exact HO_22.out) hb));(have n3_ := Aside0.mk (Kd.R_below (by (with_reducible repeat first | apply Kd.R_alloc | apply Kd.R_drewN | apply Kd.R_drew); exact HO_26.out) hb));(have n4_ := Aside0.mk (Kd.R_below (by (with_reducible repeat first | apply Kd.R_alloc | apply Kd.R_drewN | apply Kd.R_drew); exact HO_221003.out) hb));(have n5_ := Aside0.mk (blk_below (g := gb220) (o := .cells #[.int .i64 t214, .int .i64 t215, .int .i64 t216, .slice Ao23 t217.length co23] 27 (0, 0)) (by (with_reducible repeat first | refine blk_drewN ?_ _ | refine blk_drew ?_ | refine blk_alloc ?_ _); exact BK220.out) hb));(have n6_ := Aside0.mk (below_step (by repeat (first | (with_reducible first | exact HB.out | apply below_alloc | apply pw_below_drewN | apply below_drew1 | refine below_set ?_ GE220.out) | exact HB.out)) hb));(clear HO_18);(clear HO_20);(clear HO_22);(clear HO_26);(clear HO_221003);(clear BK220);(clear HB);(have HO_18 := n0_);(have HO_20 := n1_);(have HO_22 := n2_);(have HO_26 := n3_);(have HO_221003 := n4_);(have BK220 := n5_);(have HB := n6_);(clear n0_ n1_ n2_ n3_ n4_ n5_ n6_);((try clear hb));((try clear hb2));((try clear hk));((try clear hi));(refine hK.out _ _ ⟨(blk_cell BK220.out 0).trans rfl, (blk_cell BK220.out 1).trans rfl, (blk_cell BK220.out 2).trans rfl, (blk_cell BK220.out 3).trans rfl, HS4_⟩ (fun hHeld => ?_));(clear hK K);(refine norm_ (a' := ?_) ?_ ?_)
                         rotate_left
                         ·show Act.put _ (some 147) _ = _
                          simp only [Act.put, List.setIfInBounds_toArray, List.set_cons_zero, List.set_cons_succ, i64_w, i32_w]
                          rfl
                         refine pure_ (i := 6) (N := some 141) (v := ?_) (a' := ?_) #[true, true, true, true, true, true, true, false, false, false, false] rfl rfl (any_of HT_.out (by kernel_rfl)) (fun _ _ _ h => h) (Or.inl ⟨by rfl, ?_⟩) ?_ ?_
                         rotate_left
                         ·intro w'
                          go_simp
                          with_reducible rfl
                         rotate_left
                         ·simp only [Act.put, List.setIfInBounds_toArray, List.set_cons_zero, List.set_cons_succ, i64_w, i32_w]
                          rfl
                         refine pure_ (i := 7) (N := some 148) (v := ?_) (a' := ?_) #[true, true, true, true, true, true, true, true, false, false, false] rfl rfl (any_of HT_.out (by kernel_rfl)) (fun _ _ _ h => h) (Or.inl ⟨by rfl, ?_⟩) ?_ ?_
                         rotate_left
                         ·intro w'
                          go_simp
                          with_reducible rfl
                         rotate_left
                         ·simp only [Act.put, List.setIfInBounds_toArray, List.set_cons_zero, List.set_cons_succ, i64_w, i32_w]
                          rfl
                         refine pure_ (i := 8) (N := some 149) (v := ?_) (a' := ?_) #[true, true, true, true, true, true, true, true, true, false, false] rfl rfl (any_of HT_.out (by kernel_rfl)) (fun _ _ _ h => h) (Or.inl ⟨by rfl, ?_⟩) ?_ ?_
                         rotate_left
                         ·intro w'
                          go_simp
                          with_reducible rfl
                         rotate_left
                         ·simp only [Act.put, List.setIfInBounds_toArray, List.set_cons_zero, List.set_cons_succ, i64_w, i32_w]
                          rfl
                         refine pure_ (i := 9) (N := some 28) (v := ?_) (a' := ?_) #[true, true, true, true, true, true, true, true, true, true, false] rfl rfl (any_of HT_.out (by kernel_rfl)) (fun _ _ _ h => h) (Or.inl ⟨by rfl, ?_⟩) ?_ ?_
                         rotate_left
                         ·intro w'
                          go_simp
                          with_reducible rfl
                         rotate_left
                         ·simp only [Act.put, List.setIfInBounds_toArray, List.set_cons_zero, List.set_cons_succ, i64_w, i32_w]
                          rfl
                         refine pure_ (i := 10) (N := some 29) (v := ?_) (a' := ?_) #[true, true, true, true, true, true, true, true, true, true, true] rfl rfl (any_of HT_.out (by kernel_rfl)) (fun _ _ _ h => h) (Or.inl ⟨by rfl, ?_⟩) ?_ ?_
                         rotate_left
                         ·intro w'
                          go_simp
                          with_reducible rfl
                         rotate_left
                         ·simp only [Act.put, List.setIfInBounds_toArray, List.set_cons_zero, List.set_cons_succ, i64_w, i32_w]
                          rfl
                         (refine done_ (done_of HT_.out (by kernel_rfl)) ?_);(obtain ⟨Ao132, co132, eo132⟩ := Kd.R_slice HO_20.out);(subst eo132);(have p248 : 0 ≤ (x24_2 : Int) := of_decide_eq_true (by first | (with_reducible assumption) | assumption));(have q248 : x24_2 < (t230.length : Int) := of_decide_eq_true (by first | (with_reducible assumption) | assumption));(obtain ⟨ad248, e248, hx248_0⟩ := Kd.at_bool (Kd.R_reads' HO_20.out).2.2 x24_2 p248 q248);((try rw [← Nbq74.out] at hx248_0));((try rw [← Nbq125.out] at hx248_0));(cases e248);(replace p248 := eq_true p248);(replace q248 := eq_true q248);(have p258 : 0 ≤ (t247 : Int) := of_decide_eq_true (by first | (with_reducible assumption) | assumption));(have q258 : t247 < (t230.length : Int) := of_decide_eq_true (by first | (with_reducible assumption) | assumption));(obtain ⟨ad258, e258, hx258_0⟩ := Kd.at_bool (Kd.R_reads' HO_20.out).2.2 t247 p258 q258);((try rw [← Nbq74.out] at hx258_0));((try rw [← Nbq125.out] at hx258_0));(obtain rfl : ad248 = ad258 := (by injection e258));(replace p258 := eq_true p258);(replace q258 := eq_true q258);(have p259 : 0 ≤ (x27_4 : Int) := of_decide_eq_true (by first | (with_reducible assumption) | assumption));(have q259 : x27_4 < (t242.length : Int) := of_decide_eq_true (by first | (with_reducible assumption) | assumption));(obtain ⟨ad259, e259, hx259_0⟩ := Kd.at_int (Kd.R_reads' HO_26.out).2.2 x27_4 p259 q259);(obtain rfl : ad245 = ad259 := (by injection e259));(replace p259 := eq_true p259);(replace q259 := eq_true q259);(obtain ⟨Ao133, co133, eo133⟩ := Kd.R_slice HO_18.out);(subst eo133);(have p260 : 0 ≤ ((Go.bits .xor .i64 (rd t242 x27_4) 1) : Int) := of_decide_eq_true (by first | (with_reducible assumption) | assumption));(have q260 : (Go.bits .xor .i64 (rd t242 x27_4) 1) < (t226.length : Int) := of_decide_eq_true (by first | (with_reducible assumption) | assumption));(obtain ⟨ad260, e260, hx260_0⟩ := Kd.at_int (Kd.R_reads' HO_18.out).2.2 (Go.bits .xor .i64 (rd t242 x27_4) 1) p260 q260);(cases e260);(replace p260 := eq_true p260);(replace q260 := eq_true q260)
                         try go_wp2
                         go_roundg k4
                         case measure => have := HJ17.out; have := HK2.out; have := HJ54.out; have := HK4.out; omega
                         case rel => exact ⟨(decide ((rd t226 (Go.bits .xor .i64 (rd t242 x27_4) 1)) ≥ (wrap64 (1 + (ji13))))), (wrap64 (x27_4 + 1)), (by first | rfl | (simp; done) | (simp only [← hji13] <;> (first | rfl | simp)) | (simp [*]; done)), (by first | rfl | (simp; done) | (simp [*]; done)), H', ⟨by have := HJ17.out; have := HK2.out; have := HJ54.out; have := HK4.out; omega⟩, ⟨by (with_reducible repeat first | apply Kd.R_alloc | apply Kd.R_drewN | apply Kd.R_drew); exact HO_18.out⟩, ⟨by (with_reducible repeat first | apply Kd.R_alloc | apply Kd.R_drewN | apply Kd.R_drew); exact HO_20.out⟩, ⟨by (with_reducible repeat first | apply Kd.R_alloc | apply Kd.R_drewN | apply Kd.R_drew); exact HO_22.out⟩, ⟨by (with_reducible repeat first | apply Kd.R_alloc | apply Kd.R_drewN | apply Kd.R_drew); exact HO_26.out⟩, ⟨by (with_reducible repeat first | apply Kd.R_alloc | apply Kd.R_drewN | apply Kd.R_drew); exact HO_221003.out⟩, ⟨by (with_reducible repeat first | refine blk_drewN ?_ _ | refine blk_drew ?_ | refine blk_alloc ?_ _); exact BK220.out⟩, ⟨by repeat (first | (with_reducible first | exact HB.out | apply below_alloc | apply pw_below_drewN | apply below_drew1 | refine below_set ?_ GE220.out) | exact HB.out)⟩⟩
                       ·(rw [if_neg c128] at H);(exact absurd H (by simp))
                      ·(rw [if_neg c127] at H);(exact absurd H (by simp))
                     ·(replace c126 := Bool.eq_false_iff.mpr c126);(subst c126);(have H1 : (racewaylaw6_ResidualReach.l1 k4 (wrap64 (1 + (ji13))) t226 t230 t234 x24_2 false t242 (wrap64 (x27_4 + 1)) t214 t215 t216 t217) = some r := by rw [if_neg (show ¬ (false = true) by decide)] at H; exact H);(clear H);(have H := H1);(clear H1)
                      as_aux_lemma =>
                       (have H' := Aside0.mk H);(clear H);(obtain ⟨Ao134, co134, eo134⟩ := Kd.R_slice HO_26.out);(subst eo134)
                       try go_wp2
                       (have n0_ := Aside0.mk (Kd.R_drew HO_18.out));(have n1_ := Aside0.mk (Kd.R_drew HO_20.out));(have n2_ := Aside0.mk (Kd.R_drew HO_22.out));(have n3_ := Aside0.mk (Kd.R_drew HO_26.out));(have n4_ := Aside0.mk (Kd.R_drew HO_221003.out));(have n5_ := Aside0.mk (blk_drew BK220.out));(have n6_ := Aside0.mk (below_drew1 HB.out));(clear HO_18);(clear HO_20);(clear HO_22);(clear HO_26);(clear HO_221003);(clear BK220);(clear HB);(have HO_18 := n0_);(have HO_20 := n1_);(have HO_22 := n2_);(have HO_26 := n3_);(have HO_221003 := n4_);(have BK220 := n5_);(have HB := n6_);(clear n0_ n1_ n2_ n3_ n4_ n5_ n6_);(have p245 : 0 ≤ (x27_4 : Int) := of_decide_eq_true (by first | (with_reducible assumption) | assumption));(have q245 : x27_4 < (t242.length : Int) := of_decide_eq_true (by first | (with_reducible assumption) | assumption));(obtain ⟨ad245, e245, hx245_0⟩ := Kd.at_int (Kd.R_reads' HO_26.out).2.2 x27_4 p245 q245);(cases e245);(replace p245 := eq_true p245);(replace q245 := eq_true q245);(refine start_ (n := 11) (S := fun w' => w'.cell? ⟨gb220, 0, none⟩ = some (.int .i64 t214) ∧ w'.cell? ⟨gb220, 1, none⟩ = some (.int .i64 t215) ∧ w'.cell? ⟨gb220, 2, none⟩ = some (.int .i64 t216) ∧ w'.cell? ⟨gb220, 3, none⟩ = some (.slice Ao23 t217.length co23) ∧ w'.cell? (ad245.add (x27_4).toNat) = some (.int .i64 (rd t242 x27_4))) (ds := []) #[false, false, false, false, false, false, false, false, false, false, false] (by kernel_rfl) rfl rfl ⟨(blk_cell BK220.out 0).trans rfl, (blk_cell BK220.out 1).trans rfl, (blk_cell BK220.out 2).trans rfl, (blk_cell BK220.out 3).trans rfl, hx245_0⟩ (fun hHeld => ?_); refine with_tabW racewaylaw6_ResidualReach.tab23 racewaylaw6_ResidualReach.bits23 (fun HT_ HW_ => ?_));(generalize wr.drew = w135 at HO_18 HO_20 HO_22 HO_26 HO_221003 BK220 HB hx245_0 hHeld ⊢);(refine pure_ (i := 1) (N := some 143) (v := ?_) (a' := ?_) #[false, true, false, false, false, false, false, false, false, false, false] rfl rfl (any_of HT_.out (by kernel_rfl)) (fun _ _ _ h => h) (Or.inl ⟨by rfl, ?_⟩) ?_ ?_)
                       rotate_left
                       ·intro w'
                        go_simp
                        with_reducible rfl
                       rotate_left
                       ·simp only [Act.put, List.setIfInBounds_toArray, List.set_cons_zero, List.set_cons_succ, i64_w, i32_w]
                        rfl
                       refine pure_ (i := 2) (N := some 144) (v := ?_) (a' := ?_) #[false, true, true, false, false, false, false, false, false, false, false] rfl rfl (any_of HT_.out (by kernel_rfl)) (fun _ _ _ h => h) (Or.inl ⟨by rfl, ?_⟩) ?_ ?_
                       rotate_left
                       ·intro w'
                        go_simp
                        with_reducible rfl
                       rotate_left
                       ·simp only [Act.put, List.setIfInBounds_toArray, List.set_cons_zero, List.set_cons_succ, i64_w, i32_w]
                        rfl
                       refine pure_ (i := 3) (N := some 145) (v := ?_) (a' := ?_) #[false, true, true, true, false, false, false, false, false, false, false] rfl rfl (any_of HT_.out (by kernel_rfl)) (fun _ _ _ h => h) (Or.inl ⟨by rfl, ?_⟩) ?_ ?_
                       rotate_left
                       ·intro w'
                        go_simp
                        with_reducible rfl
                       rotate_left
                       ·simp only [Act.put, List.setIfInBounds_toArray, List.set_cons_zero, List.set_cons_succ, i64_w, i32_w]
                        rfl
                       refine take_ (i := 0) (N := some 142) (v := ?_) (a' := ?_) #[true, true, true, true, false, false, false, false, false, false, false] rfl rfl (take_ofW HT_.out HW_.out (by kernel_rfl)) (fun _ _ _ h => h) (Or.inl ⟨by rfl, ?_⟩) hHeld ?_ ?_
                       rotate_left
                       ·rintro w' ⟨s0, s1, s2, s3, s4⟩
                        go_simp
                        with_reducible rfl
                       rotate_left
                       ·simp only [Act.put, List.setIfInBounds_toArray, List.set_cons_zero, List.set_cons_succ, i64_w, i32_w]
                        rfl
                       refine take_ (i := 4) (N := some 146) (v := ?_) (a' := ?_) #[true, true, true, true, true, false, false, false, false, false, false] rfl rfl (take_ofW HT_.out HW_.out (by kernel_rfl)) (fun _ _ _ h => h) (Or.inl ⟨by rfl, ?_⟩) hHeld ?_ ?_
                       rotate_left
                       ·rintro w' ⟨s0, s1, s2, s3, s4⟩
                        go_simp
                        with_reducible rfl
                       rotate_left
                       ·simp only [Act.put, List.setIfInBounds_toArray, List.set_cons_zero, List.set_cons_succ, i64_w, i32_w]
                        rfl
                       (refine one_ (i := 5) (N := some 147) #[true, true, true, true, true, true, false, false, false, false, false] rfl rfl (one_of HT_.out (by kernel_rfl)) (by decide) (fun K hK => ?_));(refine goes_ Try.func21 (by kernel_rfl) rfl #[.agg #[.int .i64 t214, .int .i64 t215, .int .i64 t216, .slice Ao23 t217.length co23], .int .i64 (rd t242 x27_4)] (by rfl) rfl rfl (by (try simp only [List.map_toArray, List.map_cons, List.map_nil]); first | done | rfl | (simp only [List.length_drop, List.length_take]; rfl)) ?_)
                       with_reducible refine (residual_Ends.calls k4 t214 t215 t216 _ _ t217 (rd t242 x27_4) t246 t247 _ ?side1 ?side2 A71.out).mono ?_
                       (case side1 => repeat (first | exact (Kd.R_reads' HO_221003.out).2.2 | (with_reducible refine Kd.C_alloc ?_ _) | (with_reducible refine Kd.C_drewN ?_ _) | (with_reducible refine Kd.C_drew ?_)))
                       (case side2 => exact (Kd.R_reads' HO_221003.out).2.1)
                       (rintro e w136 ⟨rfl, hb⟩);(have HS4_ := (hb.cell (World.block_lt_of_cell? _ _ (hHeld.2.2.2.2))).trans (hHeld.2.2.2.2));(refine ⟨_, rfl, ?_⟩);(have n0_ := Aside0.mk (Kd.R_below (by (with_reducible repeat first | apply Kd.R_alloc | apply Kd.R_drewN | apply Kd.R_drew); exact HO_18.out) hb));(have n1_ := Aside0.mk (Kd.R_below (by (with_reducible repeat first | apply Kd.R_alloc | apply Kd.R_drewN | apply Kd.R_drew); exact HO_20.out) hb));(have n2_ := Aside0.mk (Kd.R_below (by (with_reducible repeat first | apply Kd.R_alloc | apply Kd.R_drewN | apply Kd.R_drew); exact HO_22.out) hb));(have n3_ := Aside0.mk (Kd.R_below (by (with_reducible repeat first | apply Kd.R_alloc | apply Kd.R_drewN | apply Kd.R_drew); exact HO_26.out) hb));(have n4_ := Aside0.mk (Kd.R_below (by (with_reducible repeat first | apply Kd.R_alloc | apply Kd.R_drewN | apply Kd.R_drew); exact HO_221003.out) hb));(have n5_ := Aside0.mk (blk_below (g := gb220) (o := .cells #[.int .i64 t214, .int .i64 t215, .int .i64 t216, .slice Ao23 t217.length co23] 27 (0, 0)) (by (with_reducible repeat first | refine blk_drewN ?_ _ | refine blk_drew ?_ | refine blk_alloc ?_ _); exact BK220.out) hb));(have n6_ := Aside0.mk (below_step (by repeat (first | (with_reducible first | exact HB.out | apply below_alloc | apply pw_below_drewN | apply below_drew1 | refine below_set ?_ GE220.out) | exact HB.out)) hb));(clear HO_18);(clear HO_20);(clear HO_22);(clear HO_26);(clear HO_221003);(clear BK220);(clear HB);(have HO_18 := n0_);(have HO_20 := n1_);(have HO_22 := n2_);(have HO_26 := n3_);(have HO_221003 := n4_);(have BK220 := n5_);(have HB := n6_);(clear n0_ n1_ n2_ n3_ n4_ n5_ n6_);((try clear hb));((try clear hb2));((try clear hk));((try clear hi));(refine hK.out _ _ ⟨(blk_cell BK220.out 0).trans rfl, (blk_cell BK220.out 1).trans rfl, (blk_cell BK220.out 2).trans rfl, (blk_cell BK220.out 3).trans rfl, HS4_⟩ (fun hHeld => ?_));(clear hK K);(refine norm_ (a' := ?_) ?_ ?_)
                       rotate_left
                       ·show Act.put _ (some 147) _ = _
                        simp only [Act.put, List.setIfInBounds_toArray, List.set_cons_zero, List.set_cons_succ, i64_w, i32_w]
                        rfl
                       refine pure_ (i := 6) (N := some 141) (v := ?_) (a' := ?_) #[true, true, true, true, true, true, true, false, false, false, false] rfl rfl (any_of HT_.out (by kernel_rfl)) (fun _ _ _ h => h) (Or.inl ⟨by rfl, ?_⟩) ?_ ?_
                       rotate_left
                       ·intro w'
                        go_simp
                        with_reducible rfl
                       rotate_left
                       ·simp only [Act.put, List.setIfInBounds_toArray, List.set_cons_zero, List.set_cons_succ, i64_w, i32_w]
                        rfl
                       refine pure_ (i := 7) (N := some 148) (v := ?_) (a' := ?_) #[true, true, true, true, true, true, true, true, false, false, false] rfl rfl (any_of HT_.out (by kernel_rfl)) (fun _ _ _ h => h) (Or.inl ⟨by rfl, ?_⟩) ?_ ?_
                       rotate_left
                       ·intro w'
                        go_simp
                        with_reducible rfl
                       rotate_left
                       ·simp only [Act.put, List.setIfInBounds_toArray, List.set_cons_zero, List.set_cons_succ, i64_w, i32_w]
                        rfl
                       refine pure_ (i := 8) (N := some 149) (v := ?_) (a' := ?_) #[true, true, true, true, true, true, true, true, true, false, false] rfl rfl (any_of HT_.out (by kernel_rfl)) (fun _ _ _ h => h) (Or.inl ⟨by rfl, ?_⟩) ?_ ?_
                       rotate_left
                       ·intro w'
                        go_simp
                        with_reducible rfl
                       rotate_left
                       ·simp only [Act.put, List.setIfInBounds_toArray, List.set_cons_zero, List.set_cons_succ, i64_w, i32_w]
                        rfl
                       refine pure_ (i := 9) (N := some 28) (v := ?_) (a' := ?_) #[true, true, true, true, true, true, true, true, true, true, false] rfl rfl (any_of HT_.out (by kernel_rfl)) (fun _ _ _ h => h) (Or.inl ⟨by rfl, ?_⟩) ?_ ?_
                       rotate_left
                       ·intro w'
                        go_simp
                        with_reducible rfl
                       rotate_left
                       ·simp only [Act.put, List.setIfInBounds_toArray, List.set_cons_zero, List.set_cons_succ, i64_w, i32_w]
                        rfl
                       refine pure_ (i := 10) (N := some 29) (v := ?_) (a' := ?_) #[true, true, true, true, true, true, true, true, true, true, true] rfl rfl (any_of HT_.out (by kernel_rfl)) (fun _ _ _ h => h) (Or.inl ⟨by rfl, ?_⟩) ?_ ?_
                       rotate_left
                       ·intro w'
                        go_simp
                        with_reducible rfl
                       rotate_left
                       ·simp only [Act.put, List.setIfInBounds_toArray, List.set_cons_zero, List.set_cons_succ, i64_w, i32_w]
                        rfl
                       (refine done_ (done_of HT_.out (by kernel_rfl)) ?_);(obtain ⟨Ao137, co137, eo137⟩ := Kd.R_slice HO_20.out);(subst eo137);(have p248 : 0 ≤ (x24_2 : Int) := of_decide_eq_true (by first | (with_reducible assumption) | assumption));(have q248 : x24_2 < (t230.length : Int) := of_decide_eq_true (by first | (with_reducible assumption) | assumption));(obtain ⟨ad248, e248, hx248_0⟩ := Kd.at_bool (Kd.R_reads' HO_20.out).2.2 x24_2 p248 q248);((try rw [← Nbq74.out] at hx248_0));((try rw [← Nbq125.out] at hx248_0));(cases e248);(replace p248 := eq_true p248);(replace q248 := eq_true q248);(have p258 : 0 ≤ (t247 : Int) := of_decide_eq_true (by first | (with_reducible assumption) | assumption));(have q258 : t247 < (t230.length : Int) := of_decide_eq_true (by first | (with_reducible assumption) | assumption));(obtain ⟨ad258, e258, hx258_0⟩ := Kd.at_bool (Kd.R_reads' HO_20.out).2.2 t247 p258 q258);((try rw [← Nbq74.out] at hx258_0));((try rw [← Nbq125.out] at hx258_0));(obtain rfl : ad248 = ad258 := (by injection e258));(replace p258 := eq_true p258);(replace q258 := eq_true q258)
                       try go_wp2
                       go_roundg k4
                       case measure => have := HJ17.out; have := HK2.out; have := HJ54.out; have := HK4.out; omega
                       case rel => exact ⟨(false), (wrap64 (x27_4 + 1)), (by first | rfl | (simp; done) | (simp [*]; done)), (by first | rfl | (simp; done) | (simp [*]; done)), H', ⟨by have := HJ17.out; have := HK2.out; have := HJ54.out; have := HK4.out; omega⟩, ⟨by (with_reducible repeat first | apply Kd.R_alloc | apply Kd.R_drewN | apply Kd.R_drew); exact HO_18.out⟩, ⟨by (with_reducible repeat first | apply Kd.R_alloc | apply Kd.R_drewN | apply Kd.R_drew); exact HO_20.out⟩, ⟨by (with_reducible repeat first | apply Kd.R_alloc | apply Kd.R_drewN | apply Kd.R_drew); exact HO_22.out⟩, ⟨by (with_reducible repeat first | apply Kd.R_alloc | apply Kd.R_drewN | apply Kd.R_drew); exact HO_26.out⟩, ⟨by (with_reducible repeat first | apply Kd.R_alloc | apply Kd.R_drewN | apply Kd.R_drew); exact HO_221003.out⟩, ⟨by (with_reducible repeat first | refine blk_drewN ?_ _ | refine blk_drew ?_ | refine blk_alloc ?_ _); exact BK220.out⟩, ⟨by repeat (first | (with_reducible first | exact HB.out | apply below_alloc | apply pw_below_drewN | apply below_drew1 | refine below_set ?_ GE220.out) | exact HB.out)⟩⟩
                    ·(rw [if_neg c124] at H);(exact absurd H (by simp))
                   ·(rw [if_neg c123] at H);(exact absurd H (by simp))
                ·(rw [if_neg c73] at H);(exact absurd H (by simp))
               ·(rw [if_neg c72] at H);(exact absurd H (by simp))
              ·(rw [if_neg c70] at H);(exact absurd H (by simp))
             ·(rw [if_neg c69] at H);(have c69b0 : decide (x27_4 < (t242.length : Int)) = false := decide_eq_false c69);(clear c69)
              by_cases c138 : 0 ≤ x24_2
              ·(rw [if_pos c138] at H);(have c138b0 : decide (0 ≤ x24_2) = true := decide_eq_true c138);(clear c138)
               by_cases c139 : x24_2 < (t230.length : Int)
               ·(rw [if_pos c139] at H);(have c139b0 : decide (x24_2 < (t230.length : Int)) = true := decide_eq_true c139);(clear c139);(obtain ⟨bq140, hbq140⟩ : ∃ b_ : Bool, b_ = (rdOf false t230 x24_2) := ⟨_, rfl⟩);(replace H : (if bq140 = true then (if x25_4 = true then (racewaylaw6_ResidualReach.l0 k4 (wrap64 (1 + (ji13))) t226 t230 t234 (wrap64 (x24_2 + 1)) t214 t215 t216 t217) else (some false)) else (racewaylaw6_ResidualReach.l0 k4 (wrap64 (1 + (ji13))) t226 t230 t234 (wrap64 (x24_2 + 1)) t214 t215 t216 t217)) = some r := by rw [← hbq140] at H; exact H);(have Nbq140 := Aside0.mk hbq140);(clear hbq140)
                by_cases c141 : bq140 = true
                ·(subst c141);(have H1 : (if x25_4 = true then (racewaylaw6_ResidualReach.l0 k4 (wrap64 (1 + (ji13))) t226 t230 t234 (wrap64 (x24_2 + 1)) t214 t215 t216 t217) else (some false)) = some r := by rw [if_pos rfl] at H; exact H);(clear H);(have H := H1);(clear H1)
                 by_cases c142 : x25_4 = true
                 ·(subst c142);(have H1 : (racewaylaw6_ResidualReach.l0 k4 (wrap64 (1 + (ji13))) t226 t230 t234 (wrap64 (x24_2 + 1)) t214 t215 t216 t217) = some r := by rw [if_pos rfl] at H; exact H);(clear H);(have H := H1);(clear H1)
                  as_aux_lemma =>
                   (have H' := Aside0.mk H);(clear H);(obtain ⟨Ao143, co143, eo143⟩ := Kd.R_slice HO_26.out);(subst eo143);(obtain ⟨Ao144, co144, eo144⟩ := Kd.R_slice HO_20.out);(subst eo144);(have p261 : 0 ≤ (x24_2 : Int) := of_decide_eq_true (by first | (with_reducible assumption) | assumption));(have q261 : x24_2 < (t230.length : Int) := of_decide_eq_true (by first | (with_reducible assumption) | assumption));(obtain ⟨ad261, e261, hx261_0⟩ := Kd.at_bool (Kd.R_reads' HO_20.out).2.2 x24_2 p261 q261);((try rw [← Nbq140.out] at hx261_0));(cases e261);(replace p261 := eq_true p261);(replace q261 := eq_true q261)
                   go_wp2
                   go_roundg k4
                   case measure => have := HJ17.out; have := HK2.out; have := HJ54.out; have := HK4.out; omega
                   case rel => exact ⟨(wrap64 (x24_2 + 1)), (by first | rfl | (simp; done) | (simp [*]; done)), H', ⟨by have := HJ17.out; have := HK2.out; have := HJ54.out; have := HK4.out; omega⟩, ⟨by (with_reducible repeat first | apply Kd.R_alloc | apply Kd.R_drewN | apply Kd.R_drew); exact HO_18.out⟩, ⟨by (with_reducible repeat first | apply Kd.R_alloc | apply Kd.R_drewN | apply Kd.R_drew); exact HO_20.out⟩, ⟨by (with_reducible repeat first | apply Kd.R_alloc | apply Kd.R_drewN | apply Kd.R_drew); exact HO_22.out⟩, ⟨by (with_reducible repeat first | apply Kd.R_alloc | apply Kd.R_drewN | apply Kd.R_drew); exact HO_221003.out⟩, ⟨by (with_reducible repeat first | refine blk_drewN ?_ _ | refine blk_drew ?_ | refine blk_alloc ?_ _); exact BK220.out⟩, ⟨by repeat (first | (with_reducible first | exact HB.out | apply below_alloc | apply pw_below_drewN | apply below_drew1 | refine below_set ?_ GE220.out) | exact HB.out)⟩⟩
                 ·(replace c142 := Bool.eq_false_iff.mpr c142);(subst c142);(have H1 : (some false) = some r := by rw [if_neg (show ¬ (false = true) by decide)] at H; exact H);(clear H);(have H := H1);(clear H1);(exact absurd ((Option.some.inj H).trans hrT_.out) (by simp))
                ·(replace c141 := Bool.eq_false_iff.mpr c141);(subst c141);(have H1 : (racewaylaw6_ResidualReach.l0 k4 (wrap64 (1 + (ji13))) t226 t230 t234 (wrap64 (x24_2 + 1)) t214 t215 t216 t217) = some r := by rw [if_neg (show ¬ (false = true) by decide)] at H; exact H);(clear H);(have H := H1);(clear H1)
                 as_aux_lemma =>
                  (have H' := Aside0.mk H);(clear H);(obtain ⟨Ao145, co145, eo145⟩ := Kd.R_slice HO_26.out);(subst eo145);(obtain ⟨Ao146, co146, eo146⟩ := Kd.R_slice HO_20.out);(subst eo146);(have p261 : 0 ≤ (x24_2 : Int) := of_decide_eq_true (by first | (with_reducible assumption) | assumption));(have q261 : x24_2 < (t230.length : Int) := of_decide_eq_true (by first | (with_reducible assumption) | assumption));(obtain ⟨ad261, e261, hx261_0⟩ := Kd.at_bool (Kd.R_reads' HO_20.out).2.2 x24_2 p261 q261);((try rw [← Nbq140.out] at hx261_0));(cases e261);(replace p261 := eq_true p261);(replace q261 := eq_true q261)
                  go_wp2
                  go_roundg k4
                  case measure => have := HJ17.out; have := HK2.out; have := HJ54.out; have := HK4.out; omega
                  case rel => exact ⟨(wrap64 (x24_2 + 1)), (by first | rfl | (simp; done) | (simp [*]; done)), H', ⟨by have := HJ17.out; have := HK2.out; have := HJ54.out; have := HK4.out; omega⟩, ⟨by (with_reducible repeat first | apply Kd.R_alloc | apply Kd.R_drewN | apply Kd.R_drew); exact HO_18.out⟩, ⟨by (with_reducible repeat first | apply Kd.R_alloc | apply Kd.R_drewN | apply Kd.R_drew); exact HO_20.out⟩, ⟨by (with_reducible repeat first | apply Kd.R_alloc | apply Kd.R_drewN | apply Kd.R_drew); exact HO_22.out⟩, ⟨by (with_reducible repeat first | apply Kd.R_alloc | apply Kd.R_drewN | apply Kd.R_drew); exact HO_221003.out⟩, ⟨by (with_reducible repeat first | refine blk_drewN ?_ _ | refine blk_drew ?_ | refine blk_alloc ?_ _); exact BK220.out⟩, ⟨by repeat (first | (with_reducible first | exact HB.out | apply below_alloc | apply pw_below_drewN | apply below_drew1 | refine below_set ?_ GE220.out) | exact HB.out)⟩⟩
               ·(rw [if_neg c139] at H);(exact absurd H (by simp))
              ·(rw [if_neg c138] at H);(exact absurd H (by simp))
       ·(rw [if_neg c54] at H);(have c54b0 : decide (x24_2 ≤ t214) = false := decide_eq_false c54);(clear c54)
        as_aux_lemma =>
         (obtain rfl := Option.some.inj H);(have hcz147_0 : wr.cell? ⟨gb220, 0, none⟩ = some (.int .i64 t214) := (blk_cell BK220.out 0).trans rfl);(have hcz147_1 : wr.cell? ⟨gb220, 1, none⟩ = some (.int .i64 t215) := (blk_cell BK220.out 1).trans rfl);(have hcz147_2 : wr.cell? ⟨gb220, 2, none⟩ = some (.int .i64 t216) := (blk_cell BK220.out 2).trans rfl);(have hcz147_3 : wr.cell? ⟨gb220, 3, none⟩ = some (.slice Ao23 t217.length co23) := (blk_cell BK220.out 3).trans rfl);(have hfz147_0 := blk_frozen BK220.out 0);(have hfz147_1 := blk_frozen BK220.out 1);(have hfz147_2 := blk_frozen BK220.out 2);(have hfz147_3 := blk_frozen BK220.out 3)
         go_wp2
         go_ret
         exact ⟨by first | rfl | (simp [errW_none, errW_some] <;> rfl) | (simp only [← hji13, ← hji14]; first | rfl | (simp [errW_none, errW_some] <;> rfl)) | (simp [*, errW_none, errW_some] <;> rfl), by repeat (first | (with_reducible first | exact HB.out | apply below_alloc | apply pw_below_drewN | apply below_drew1 | refine below_set ?_ GE220.out) | exact HB.out)⟩
 ·replace c8 := Bool.eq_false_iff.mpr c8
  subst c8
  have H1 : (some false) = some r := by rw [if_neg (show ¬ (false = true) by decide)] at H; exact H
  clear H
  have H := H1
  clear H1
  exact absurd ((Option.some.inj H).trans hrT_.out) (by simp)
/-- THE ONE PURE STATEMENT of racewaylaw6_ResidualReach. -/
def racewaylaw6_ResidualReach.Pure : Prop := ∀ (a0 : Int) (a1 : Int) (l2 : List (S68)) (l3 : List Int) (a4 : Int) (a5 : Int), (Lit.int .i64 a0).wf = true → (Lit.int .i64 a1).wf = true → l2.length ≤ maxLen → (∀ x ∈ l2, (Lit.int .i64 x.f0).wf = true ∧ (Lit.int .i64 x.f1).wf = true ∧ (Lit.int .i64 x.f2).wf = true) → l3.length ≤ maxLen → l3.length * 8 ≤ 140737488351232 → (∀ x ∈ l3, (Lit.int .i64 x).wf = true) → (Lit.int .i64 a4).wf = true → (Lit.int .i64 a5).wf = true → ∃ k, racewaylaw6_ResidualReach.f k a0 a1 l2 l3 a4 a5 = some true
theorem racewaylaw6_ResidualReach.walk (P : racewaylaw6_ResidualReach.Pure) (a0 : Int) (a1 : Int) (A2 : Option Addr) (c2 : Nat) (l2 : List (S68)) (A3 : Option Addr) (c3 : Nat) (l3 : List Int) (a4 : Int) (a5 : Int) (w : World) (w0 : (Lit.int .i64 a0).wf = true) (w1 : (Lit.int .i64 a1).wf = true) (hr2 : Kd.C k68 w A2 l2.length l2) (hc2 : l2.length ≤ c2) (hm2 : l2.length ≤ maxLen) (hw2 : (∀ x ∈ l2, (Lit.int .i64 x.f0).wf = true ∧ (Lit.int .i64 x.f1).wf = true ∧ (Lit.int .i64 x.f2).wf = true)) (hr3 : Kd.C (Kd.int .i64) w A3 l3.length l3) (hc3 : l3.length ≤ c3) (hm3 : l3.length ≤ maxLen) (y3 : l3.length * 8 ≤ 140737488351232) (hw3 : (∀ x ∈ l3, (Lit.int .i64 x).wf = true)) (w4 : (Lit.int .i64 a4).wf = true) (w5 : (Lit.int .i64 a5).wf = true) :
  Calls Try.prog 3 #[.int .i64 a0, .int .i64 a1, .slice A2 l2.length c2, .slice A3 l3.length c3, .int .i64 a4, .int .i64 a5] w fun e w' => e = .returned (.bool true) ∧ Below w.heap.size w w' := by
 obtain ⟨k, h⟩ := P a0 a1 l2 l3 a4 a5 w0 w1 hm2 hw2 hm3 y3 hw3 w4 w5
 refine (racewaylaw6_ResidualReach.calls k a0 a1 _ _ l2 _ _ l3 a4 a5 true w hr2 hc2 hr3 hc3 h ⟨rfl⟩).mono ?_
 rintro e w' ⟨rfl, hd⟩
 exact ⟨rfl, hd⟩
end Go.Proofs.Ytbppeffcikphcaa.PResidualReach
