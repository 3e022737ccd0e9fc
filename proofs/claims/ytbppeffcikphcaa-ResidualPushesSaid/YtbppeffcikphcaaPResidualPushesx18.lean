/- For the law ResidualPushes, for every input: printed by a program (wip/myprint), contracts by hand where it says MANUAL. -/
import Derived.Test.YtbppeffcikphcaaPResidualPushesx0
import Derived.Test.YtbppeffcikphcaaPResidualPushesx6
import Derived.Test.YtbppeffcikphcaaPResidualPushesx7
import Derived.Test.YtbppeffcikphcaaPResidualPushesx8
import Derived.Test.YtbppeffcikphcaaPResidualPushesx9
import Derived.Test.YtbppeffcikphcaaPResidualPushesx11
import Derived.Test.YtbppeffcikphcaaPResidualPushesx12
import Derived.Test.YtbppeffcikphcaaPResidualPushesx13
import Derived.Test.YtbppeffcikphcaaPResidualPushesx15
import Derived.Test.YtbppeffcikphcaaPResidualPushesx16
import Derived.Test.YtbppeffcikphcaaPResidualPushesx17
namespace Go.Proofs.Ytbppeffcikphcaa.PResidualPushes
open Go.RowKit Go.Proofs.YtbppeffcikphcaaW.PrintWords Go.Proofs.YtbppeffcikphcaaW.PrintLast Go.Proofs.YtbppeffcikphcaaW.PrintMore
set_option linter.unusedVariables false
set_option linter.unusedSimpArgs false
attribute [local go_sem] max2_int min2_int max_two min_two max_three min_three max_four min_four
/-! ### racewaylaw6_ResidualPushes: function 8 -/
mutual
def racewaylaw6_ResidualPushes.j0 : Nat → Int → Int → List (S68) → List Int → List Int → Bool → Bool → Option (Bool)
 | 0, _, _, _, _, _, _, _ => none
 | k + 1, x0, x1, x2, x3, x4, x11, x47 => if x47 = true then (some x11) else ((racewaylaw6_made.f k x0 x1 x2).bind fun bt235 => ((racewaylaw6_routed.f k bt235.1 bt235.2.1 bt235.2.2.1 bt235.2.2.2 x3).bind fun t242 => ((residual_Room.f k bt235.1 bt235.2.1 bt235.2.2.1 bt235.2.2.2 t242).bind fun bt245 => (if bt245.2 = 0 then (racewaylaw6_ResidualPushes.j1 k x4 t242 bt245.1 ((bt245.1.length : Int) != (wrap64 (2 * (bt235.2.2.2.length : Int)))) bt235.1 bt235.2.1 bt235.2.2.1 bt235.2.2.2) else (racewaylaw6_ResidualPushes.j1 k x4 t242 bt245.1 true bt235.1 bt235.2.1 bt235.2.2.1 bt235.2.2.2)))))
def racewaylaw6_ResidualPushes.j1 : Nat → List Int → List Int → List Int → Bool → Int → Int → Int → List (S49) → Option (Bool)
 | 0, _, _, _, _, _, _, _, _ => none
 | k + 1, x4, x13, x14, x72, x242000, x242001, x242002, x242003 => if x72 = true then (some false) else (if 0 ≤ (wrap64 (x242000 + 1)) then (if (wrap64 (x242000 + 1) : Int).toNat ≤ 281474976710656 then (racewaylaw6_ResidualPushes.l0 k x4 x13 x14 (List.replicate (wrap64 (x242000 + 1) : Int).toNat false) x242001 1099511627776 ([] : List Int) 0 x242000 x242001 x242002 x242003) else (none)) else (none))
def racewaylaw6_ResidualPushes.j4 : Nat → List Int → Int → Int → List Int → Int → Int → Int → List (S49) → Option (Bool)
 | 0, _, _, _, _, _, _, _, _ => none
 | k + 1, x13, x17, x18, x19, x242000, x242001, x242002, x242003 => if x17 = x242002 then ((residual_Push.f k x242000 x242001 x242002 x242003 x13 x19 x18).bind fun bt271 => ((flow_Value.f k x242000 x242001 x242002 x242003 x13).bind fun bt275 => ((flow_Value.f k x242000 x242001 x242002 x242003 bt271.1).bind fun bt277 => ((residual_Push.f k x242000 x242001 x242002 x242003 x13 x19 (wrap64 (x18 + 1))).bind fun bt279 => (if bt271.2 = 0 then (if bt277.2 = 0 then (if bt277.1 = (wrap64 (bt275.1 + x18)) then (racewaylaw6_ResidualPushes.j5 k x13 x18 x19 bt271.1 (bt279.2 != 9) x242000 x242001 x242002 x242003) else (racewaylaw6_ResidualPushes.j5 k x13 x18 x19 bt271.1 true x242000 x242001 x242002 x242003)) else (racewaylaw6_ResidualPushes.j5 k x13 x18 x19 bt271.1 true x242000 x242001 x242002 x242003)) else (racewaylaw6_ResidualPushes.j5 k x13 x18 x19 bt271.1 true x242000 x242001 x242002 x242003)))))) else ((residual_Push.f k x242000 x242001 x242002 x242003 x13 x19 1).bind fun bt267 => (some (bt267.2 == 1)))
def racewaylaw6_ResidualPushes.j5 : Nat → List Int → Int → List Int → List Int → Bool → Int → Int → Int → List (S49) → Option (Bool)
 | 0, _, _, _, _, _, _, _, _, _ => none
 | k + 1, x13, x18, x19, x27, x196, x242000, x242001, x242002, x242003 => if x196 = true then (some false) else (racewaylaw6_ResidualPushes.l1 k x13 x18 x19 x27 ([] : List Int) (wrap64 ((x19.length : Int) - 1)) x242000 x242002 x242001 x242003)
def racewaylaw6_ResidualPushes.l1 : Nat → List Int → Int → List Int → List Int → List Int → Int → Int → Int → Int → List (S49) → Option (Bool)
 | 0, _, _, _, _, _, _, _, _, _, _ => none
 | k + 1, x13, x18, x19, x27, x36, x37, x284000, x284001, x284002, x284003 => if x37 ≥ 0 then (if 0 ≤ x37 then (if x37 < (x19.length : Int) then (if x36.length < 17592186044416 then (racewaylaw6_ResidualPushes.l1 k x13 x18 x19 x27 (x36 ++ [Go.bits .xor .i64 (rd x19 x37) 1]) (wrap64 (x37 - 1)) x284000 x284001 x284002 x284003) else (none)) else (none)) else (none)) else ((residual_Push.f k x284000 x284001 x284002 x284003 x27 x36 x18).bind fun bt288 => (if bt288.2 = 0 then ((racewayref5_Same.f k bt288.1 x13).bind fun t292 => (some t292)) else (some false)))
def racewaylaw6_ResidualPushes.l0 : Nat → List Int → List Int → List Int → List Bool → Int → Int → List Int → Int → Int → Int → Int → List (S49) → Option (Bool)
 | 0, _, _, _, _, _, _, _, _, _, _, _, _ => none
 | k + 1, x4, x13, x14, x16, x17, x18, x19, x20, x242000, x242001, x242002, x242003 => if x20 < (x4.length : Int) then (racewaylaw6_ResidualPushes.j3 k x4 x13 x14 x16 x17 x18 x19 x20 (x17 != x242002) x242000 x242001 x242002 x242003) else (racewaylaw6_ResidualPushes.j3 k x4 x13 x14 x16 x17 x18 x19 x20 false x242000 x242001 x242002 x242003)
def racewaylaw6_ResidualPushes.j3 : Nat → List Int → List Int → List Int → List Bool → Int → Int → List Int → Int → Bool → Int → Int → Int → List (S49) → Option (Bool)
 | 0, _, _, _, _, _, _, _, _, _, _, _, _, _ => none
 | k + 1, x4, x13, x14, x16, x17, x18, x19, x20, x88, x242000, x242001, x242002, x242003 => if x88 = true then (if 0 ≤ x17 then (if x17 < (x16.length : Int) then ((some (x16.set (x17 : Int).toNat true : List Bool)).bind fun y252 => ((residual_From.f k x242000 x242001 x242002 x242003 x17).bind fun t253 => (if (t253.length : Int) = 0 then (racewaylaw6_ResidualPushes.j4 k x13 x17 x18 x19 x242000 x242001 x242002 x242003) else (if 0 ≤ x20 then (if x20 < (x4.length : Int) then ((racewaylaw6_pick.f (rd x4 x20) (t253.length : Int)).bind fun t257 => (if 0 ≤ t257 then (if t257 < (t253.length : Int) then ((residual_Ends.f k x242000 x242001 x242002 x242003 (rd t253 t257)).bind fun bt259 => (if 0 ≤ bt259.2 then (if bt259.2 < (x16.length : Int) then (if rdOf false y252 bt259.2 = true then (racewaylaw6_ResidualPushes.l0 k x4 x13 x14 y252 x17 x18 x19 (wrap64 (x20 + 1)) x242000 x242001 x242002 x242003) else (if 0 ≤ (rd t253 t257) then (if (rd t253 t257) < (x14.length : Int) then (if (rd x14 (rd t253 t257)) = 0 then (racewaylaw6_ResidualPushes.l0 k x4 x13 x14 y252 x17 x18 x19 (wrap64 (x20 + 1)) x242000 x242001 x242002 x242003) else (if x19.length < 17592186044416 then (racewaylaw6_ResidualPushes.l0 k x4 x13 x14 y252 bt259.2 (mn x18 (rd x14 (rd t253 t257))) (x19 ++ [rd t253 t257]) (wrap64 (x20 + 1)) x242000 x242001 x242002 x242003) else (none))) else (none)) else (none))) else (none)) else (none))) else (none)) else (none))) else (none)) else (none))))) else (none)) else (none)) else (racewaylaw6_ResidualPushes.j4 k x13 x17 x18 x19 x242000 x242001 x242002 x242003)
end
def racewaylaw6_ResidualPushes.f (k : Nat) (a0 : Int) (a1 : Int) (l2 : List (S68)) (l3 : List Int) (l4 : List Int) : Option (Bool) := (racewaylaw6_shown.f k).bind fun t234 => (if t234 = true then (racewaylaw6_ResidualPushes.j0 k a0 a1 l2 l3 l4 t234 (decide ((l4.length : Int) > 60))) else (racewaylaw6_ResidualPushes.j0 k a0 a1 l2 l3 l4 t234 true))
theorem racewaylaw6_ResidualPushes.mono_l : ∀ k, (∀ y0 y1 y2 y3 y4 y5 y6, LeO (racewaylaw6_ResidualPushes.j0 k y0 y1 y2 y3 y4 y5 y6) (racewaylaw6_ResidualPushes.j0 (k + 1) y0 y1 y2 y3 y4 y5 y6)) ∧ (∀ y0 y1 y2 y3 y4 y5 y6 y7, LeO (racewaylaw6_ResidualPushes.j1 k y0 y1 y2 y3 y4 y5 y6 y7) (racewaylaw6_ResidualPushes.j1 (k + 1) y0 y1 y2 y3 y4 y5 y6 y7)) ∧ (∀ y0 y1 y2 y3 y4 y5 y6 y7, LeO (racewaylaw6_ResidualPushes.j4 k y0 y1 y2 y3 y4 y5 y6 y7) (racewaylaw6_ResidualPushes.j4 (k + 1) y0 y1 y2 y3 y4 y5 y6 y7)) ∧ (∀ y0 y1 y2 y3 y4 y5 y6 y7 y8, LeO (racewaylaw6_ResidualPushes.j5 k y0 y1 y2 y3 y4 y5 y6 y7 y8) (racewaylaw6_ResidualPushes.j5 (k + 1) y0 y1 y2 y3 y4 y5 y6 y7 y8)) ∧ (∀ y0 y1 y2 y3 y4 y5 y6 y7 y8 y9, LeO (racewaylaw6_ResidualPushes.l1 k y0 y1 y2 y3 y4 y5 y6 y7 y8 y9) (racewaylaw6_ResidualPushes.l1 (k + 1) y0 y1 y2 y3 y4 y5 y6 y7 y8 y9)) ∧ (∀ y0 y1 y2 y3 y4 y5 y6 y7 y8 y9 y10 y11, LeO (racewaylaw6_ResidualPushes.l0 k y0 y1 y2 y3 y4 y5 y6 y7 y8 y9 y10 y11) (racewaylaw6_ResidualPushes.l0 (k + 1) y0 y1 y2 y3 y4 y5 y6 y7 y8 y9 y10 y11)) ∧ (∀ y0 y1 y2 y3 y4 y5 y6 y7 y8 y9 y10 y11 y12, LeO (racewaylaw6_ResidualPushes.j3 k y0 y1 y2 y3 y4 y5 y6 y7 y8 y9 y10 y11 y12) (racewaylaw6_ResidualPushes.j3 (k + 1) y0 y1 y2 y3 y4 y5 y6 y7 y8 y9 y10 y11 y12))
 | 0 => ⟨fun _ _ _ _ _ _ _ r h => by simp [racewaylaw6_ResidualPushes.j0] at h, fun _ _ _ _ _ _ _ _ r h => by simp [racewaylaw6_ResidualPushes.j1] at h, fun _ _ _ _ _ _ _ _ r h => by simp [racewaylaw6_ResidualPushes.j4] at h, fun _ _ _ _ _ _ _ _ _ r h => by simp [racewaylaw6_ResidualPushes.j5] at h, fun _ _ _ _ _ _ _ _ _ _ r h => by simp [racewaylaw6_ResidualPushes.l1] at h, fun _ _ _ _ _ _ _ _ _ _ _ _ r h => by simp [racewaylaw6_ResidualPushes.l0] at h, fun _ _ _ _ _ _ _ _ _ _ _ _ _ r h => by simp [racewaylaw6_ResidualPushes.j3] at h⟩
 | k + 1 => by
  obtain ⟨ih0, ih1, ih2, ih3, ih4, ih5, ih6⟩ := racewaylaw6_ResidualPushes.mono_l k
  refine ⟨?_, ?_, ?_, ?_, ?_, ?_, ?_⟩
  ·intro y0 y1 y2 y3 y4 y5 y6
   unfold racewaylaw6_ResidualPushes.j0
   repeat' first
   | (with_reducible exact ih0 _ _ _ _ _ _ _)
   | (with_reducible exact ih1 _ _ _ _ _ _ _ _)
   | (with_reducible exact ih2 _ _ _ _ _ _ _ _)
   | (with_reducible exact ih3 _ _ _ _ _ _ _ _ _)
   | (with_reducible exact ih4 _ _ _ _ _ _ _ _ _ _)
   | (with_reducible exact ih5 _ _ _ _ _ _ _ _ _ _ _ _)
   | (with_reducible exact ih6 _ _ _ _ _ _ _ _ _ _ _ _ _)
   | (with_reducible exact flow_Value.mono _ _ _ _ _ _)
   | (with_reducible exact racewaylaw6_made.mono _ _ _ _)
   | (with_reducible exact racewaylaw6_routed.mono _ _ _ _ _ _)
   | (with_reducible exact racewaylaw6_shown.mono _)
   | (with_reducible exact racewayref5_Same.mono _ _ _)
   | (with_reducible exact residual_Ends.mono _ _ _ _ _ _)
   | (with_reducible exact residual_From.mono _ _ _ _ _ _)
   | (with_reducible exact residual_Push.mono _ _ _ _ _ _ _ _)
   | (with_reducible exact residual_Room.mono _ _ _ _ _ _)
   | (with_reducible exact LeO.refl _)
   | (with_reducible exact LeO.none _)
   | (with_reducible refine LeO.ite ?_ ?_)
   | (with_reducible refine LeO.bind ?_ (fun _ => ?_))
   | exact ih0 _ _ _ _ _ _ _
   | exact ih1 _ _ _ _ _ _ _ _
   | exact ih2 _ _ _ _ _ _ _ _
   | exact ih3 _ _ _ _ _ _ _ _ _
   | exact ih4 _ _ _ _ _ _ _ _ _ _
   | exact ih5 _ _ _ _ _ _ _ _ _ _ _ _
   | exact ih6 _ _ _ _ _ _ _ _ _ _ _ _ _
   | exact flow_Value.mono _ _ _ _ _ _
   | exact racewaylaw6_made.mono _ _ _ _
   | exact racewaylaw6_routed.mono _ _ _ _ _ _
   | exact racewaylaw6_shown.mono _
   | exact racewayref5_Same.mono _ _ _
   | exact residual_Ends.mono _ _ _ _ _ _
   | exact residual_From.mono _ _ _ _ _ _
   | exact residual_Push.mono _ _ _ _ _ _ _ _
   | exact residual_Room.mono _ _ _ _ _ _
   | exact LeO.none _
   | refine LeO.ite ?_ ?_
   | refine LeO.bind ?_ (fun _ => ?_)
  ·intro y0 y1 y2 y3 y4 y5 y6 y7
   unfold racewaylaw6_ResidualPushes.j1
   repeat' first
   | (with_reducible exact ih0 _ _ _ _ _ _ _)
   | (with_reducible exact ih1 _ _ _ _ _ _ _ _)
   | (with_reducible exact ih2 _ _ _ _ _ _ _ _)
   | (with_reducible exact ih3 _ _ _ _ _ _ _ _ _)
   | (with_reducible exact ih4 _ _ _ _ _ _ _ _ _ _)
   | (with_reducible exact ih5 _ _ _ _ _ _ _ _ _ _ _ _)
   | (with_reducible exact ih6 _ _ _ _ _ _ _ _ _ _ _ _ _)
   | (with_reducible exact flow_Value.mono _ _ _ _ _ _)
   | (with_reducible exact racewaylaw6_made.mono _ _ _ _)
   | (with_reducible exact racewaylaw6_routed.mono _ _ _ _ _ _)
   | (with_reducible exact racewaylaw6_shown.mono _)
   | (with_reducible exact racewayref5_Same.mono _ _ _)
   | (with_reducible exact residual_Ends.mono _ _ _ _ _ _)
   | (with_reducible exact residual_From.mono _ _ _ _ _ _)
   | (with_reducible exact residual_Push.mono _ _ _ _ _ _ _ _)
   | (with_reducible exact residual_Room.mono _ _ _ _ _ _)
   | (with_reducible exact LeO.refl _)
   | (with_reducible exact LeO.none _)
   | (with_reducible refine LeO.ite ?_ ?_)
   | (with_reducible refine LeO.bind ?_ (fun _ => ?_))
   | exact ih0 _ _ _ _ _ _ _
   | exact ih1 _ _ _ _ _ _ _ _
   | exact ih2 _ _ _ _ _ _ _ _
   | exact ih3 _ _ _ _ _ _ _ _ _
   | exact ih4 _ _ _ _ _ _ _ _ _ _
   | exact ih5 _ _ _ _ _ _ _ _ _ _ _ _
   | exact ih6 _ _ _ _ _ _ _ _ _ _ _ _ _
   | exact flow_Value.mono _ _ _ _ _ _
   | exact racewaylaw6_made.mono _ _ _ _
   | exact racewaylaw6_routed.mono _ _ _ _ _ _
   | exact racewaylaw6_shown.mono _
   | exact racewayref5_Same.mono _ _ _
   | exact residual_Ends.mono _ _ _ _ _ _
   | exact residual_From.mono _ _ _ _ _ _
   | exact residual_Push.mono _ _ _ _ _ _ _ _
   | exact residual_Room.mono _ _ _ _ _ _
   | exact LeO.none _
   | refine LeO.ite ?_ ?_
   | refine LeO.bind ?_ (fun _ => ?_)
  ·intro y0 y1 y2 y3 y4 y5 y6 y7
   unfold racewaylaw6_ResidualPushes.j4
   repeat' first
   | (with_reducible exact ih0 _ _ _ _ _ _ _)
   | (with_reducible exact ih1 _ _ _ _ _ _ _ _)
   | (with_reducible exact ih2 _ _ _ _ _ _ _ _)
   | (with_reducible exact ih3 _ _ _ _ _ _ _ _ _)
   | (with_reducible exact ih4 _ _ _ _ _ _ _ _ _ _)
   | (with_reducible exact ih5 _ _ _ _ _ _ _ _ _ _ _ _)
   | (with_reducible exact ih6 _ _ _ _ _ _ _ _ _ _ _ _ _)
   | (with_reducible exact flow_Value.mono _ _ _ _ _ _)
   | (with_reducible exact racewaylaw6_made.mono _ _ _ _)
   | (with_reducible exact racewaylaw6_routed.mono _ _ _ _ _ _)
   | (with_reducible exact racewaylaw6_shown.mono _)
   | (with_reducible exact racewayref5_Same.mono _ _ _)
   | (with_reducible exact residual_Ends.mono _ _ _ _ _ _)
   | (with_reducible exact residual_From.mono _ _ _ _ _ _)
   | (with_reducible exact residual_Push.mono _ _ _ _ _ _ _ _)
   | (with_reducible exact residual_Room.mono _ _ _ _ _ _)
   | (with_reducible exact LeO.refl _)
   | (with_reducible exact LeO.none _)
   | (with_reducible refine LeO.ite ?_ ?_)
   | (with_reducible refine LeO.bind ?_ (fun _ => ?_))
   | exact ih0 _ _ _ _ _ _ _
   | exact ih1 _ _ _ _ _ _ _ _
   | exact ih2 _ _ _ _ _ _ _ _
   | exact ih3 _ _ _ _ _ _ _ _ _
   | exact ih4 _ _ _ _ _ _ _ _ _ _
   | exact ih5 _ _ _ _ _ _ _ _ _ _ _ _
   | exact ih6 _ _ _ _ _ _ _ _ _ _ _ _ _
   | exact flow_Value.mono _ _ _ _ _ _
   | exact racewaylaw6_made.mono _ _ _ _
   | exact racewaylaw6_routed.mono _ _ _ _ _ _
   | exact racewaylaw6_shown.mono _
   | exact racewayref5_Same.mono _ _ _
   | exact residual_Ends.mono _ _ _ _ _ _
   | exact residual_From.mono _ _ _ _ _ _
   | exact residual_Push.mono _ _ _ _ _ _ _ _
   | exact residual_Room.mono _ _ _ _ _ _
   | exact LeO.none _
   | refine LeO.ite ?_ ?_
   | refine LeO.bind ?_ (fun _ => ?_)
  ·intro y0 y1 y2 y3 y4 y5 y6 y7 y8
   unfold racewaylaw6_ResidualPushes.j5
   repeat' first
   | (with_reducible exact ih0 _ _ _ _ _ _ _)
   | (with_reducible exact ih1 _ _ _ _ _ _ _ _)
   | (with_reducible exact ih2 _ _ _ _ _ _ _ _)
   | (with_reducible exact ih3 _ _ _ _ _ _ _ _ _)
   | (with_reducible exact ih4 _ _ _ _ _ _ _ _ _ _)
   | (with_reducible exact ih5 _ _ _ _ _ _ _ _ _ _ _ _)
   | (with_reducible exact ih6 _ _ _ _ _ _ _ _ _ _ _ _ _)
   | (with_reducible exact flow_Value.mono _ _ _ _ _ _)
   | (with_reducible exact racewaylaw6_made.mono _ _ _ _)
   | (with_reducible exact racewaylaw6_routed.mono _ _ _ _ _ _)
   | (with_reducible exact racewaylaw6_shown.mono _)
   | (with_reducible exact racewayref5_Same.mono _ _ _)
   | (with_reducible exact residual_Ends.mono _ _ _ _ _ _)
   | (with_reducible exact residual_From.mono _ _ _ _ _ _)
   | (with_reducible exact residual_Push.mono _ _ _ _ _ _ _ _)
   | (with_reducible exact residual_Room.mono _ _ _ _ _ _)
   | (with_reducible exact LeO.refl _)
   | (with_reducible exact LeO.none _)
   | (with_reducible refine LeO.ite ?_ ?_)
   | (with_reducible refine LeO.bind ?_ (fun _ => ?_))
   | exact ih0 _ _ _ _ _ _ _
   | exact ih1 _ _ _ _ _ _ _ _
   | exact ih2 _ _ _ _ _ _ _ _
   | exact ih3 _ _ _ _ _ _ _ _ _
   | exact ih4 _ _ _ _ _ _ _ _ _ _
   | exact ih5 _ _ _ _ _ _ _ _ _ _ _ _
   | exact ih6 _ _ _ _ _ _ _ _ _ _ _ _ _
   | exact flow_Value.mono _ _ _ _ _ _
   | exact racewaylaw6_made.mono _ _ _ _
   | exact racewaylaw6_routed.mono _ _ _ _ _ _
   | exact racewaylaw6_shown.mono _
   | exact racewayref5_Same.mono _ _ _
   | exact residual_Ends.mono _ _ _ _ _ _
   | exact residual_From.mono _ _ _ _ _ _
   | exact residual_Push.mono _ _ _ _ _ _ _ _
   | exact residual_Room.mono _ _ _ _ _ _
   | exact LeO.none _
   | refine LeO.ite ?_ ?_
   | refine LeO.bind ?_ (fun _ => ?_)
  ·intro y0 y1 y2 y3 y4 y5 y6 y7 y8 y9
   unfold racewaylaw6_ResidualPushes.l1
   repeat' first
   | (with_reducible exact ih0 _ _ _ _ _ _ _)
   | (with_reducible exact ih1 _ _ _ _ _ _ _ _)
   | (with_reducible exact ih2 _ _ _ _ _ _ _ _)
   | (with_reducible exact ih3 _ _ _ _ _ _ _ _ _)
   | (with_reducible exact ih4 _ _ _ _ _ _ _ _ _ _)
   | (with_reducible exact ih5 _ _ _ _ _ _ _ _ _ _ _ _)
   | (with_reducible exact ih6 _ _ _ _ _ _ _ _ _ _ _ _ _)
   | (with_reducible exact flow_Value.mono _ _ _ _ _ _)
   | (with_reducible exact racewaylaw6_made.mono _ _ _ _)
   | (with_reducible exact racewaylaw6_routed.mono _ _ _ _ _ _)
   | (with_reducible exact racewaylaw6_shown.mono _)
   | (with_reducible exact racewayref5_Same.mono _ _ _)
   | (with_reducible exact residual_Ends.mono _ _ _ _ _ _)
   | (with_reducible exact residual_From.mono _ _ _ _ _ _)
   | (with_reducible exact residual_Push.mono _ _ _ _ _ _ _ _)
   | (with_reducible exact residual_Room.mono _ _ _ _ _ _)
   | (with_reducible exact LeO.refl _)
   | (with_reducible exact LeO.none _)
   | (with_reducible refine LeO.ite ?_ ?_)
   | (with_reducible refine LeO.bind ?_ (fun _ => ?_))
   | exact ih0 _ _ _ _ _ _ _
   | exact ih1 _ _ _ _ _ _ _ _
   | exact ih2 _ _ _ _ _ _ _ _
   | exact ih3 _ _ _ _ _ _ _ _ _
   | exact ih4 _ _ _ _ _ _ _ _ _ _
   | exact ih5 _ _ _ _ _ _ _ _ _ _ _ _
   | exact ih6 _ _ _ _ _ _ _ _ _ _ _ _ _
   | exact flow_Value.mono _ _ _ _ _ _
   | exact racewaylaw6_made.mono _ _ _ _
   | exact racewaylaw6_routed.mono _ _ _ _ _ _
   | exact racewaylaw6_shown.mono _
   | exact racewayref5_Same.mono _ _ _
   | exact residual_Ends.mono _ _ _ _ _ _
   | exact residual_From.mono _ _ _ _ _ _
   | exact residual_Push.mono _ _ _ _ _ _ _ _
   | exact residual_Room.mono _ _ _ _ _ _
   | exact LeO.none _
   | refine LeO.ite ?_ ?_
   | refine LeO.bind ?_ (fun _ => ?_)
  ·intro y0 y1 y2 y3 y4 y5 y6 y7 y8 y9 y10 y11
   unfold racewaylaw6_ResidualPushes.l0
   repeat' first
   | (with_reducible exact ih0 _ _ _ _ _ _ _)
   | (with_reducible exact ih1 _ _ _ _ _ _ _ _)
   | (with_reducible exact ih2 _ _ _ _ _ _ _ _)
   | (with_reducible exact ih3 _ _ _ _ _ _ _ _ _)
   | (with_reducible exact ih4 _ _ _ _ _ _ _ _ _ _)
   | (with_reducible exact ih5 _ _ _ _ _ _ _ _ _ _ _ _)
   | (with_reducible exact ih6 _ _ _ _ _ _ _ _ _ _ _ _ _)
   | (with_reducible exact flow_Value.mono _ _ _ _ _ _)
   | (with_reducible exact racewaylaw6_made.mono _ _ _ _)
   | (with_reducible exact racewaylaw6_routed.mono _ _ _ _ _ _)
   | (with_reducible exact racewaylaw6_shown.mono _)
   | (with_reducible exact racewayref5_Same.mono _ _ _)
   | (with_reducible exact residual_Ends.mono _ _ _ _ _ _)
   | (with_reducible exact residual_From.mono _ _ _ _ _ _)
   | (with_reducible exact residual_Push.mono _ _ _ _ _ _ _ _)
   | (with_reducible exact residual_Room.mono _ _ _ _ _ _)
   | (with_reducible exact LeO.refl _)
   | (with_reducible exact LeO.none _)
   | (with_reducible refine LeO.ite ?_ ?_)
   | (with_reducible refine LeO.bind ?_ (fun _ => ?_))
   | exact ih0 _ _ _ _ _ _ _
   | exact ih1 _ _ _ _ _ _ _ _
   | exact ih2 _ _ _ _ _ _ _ _
   | exact ih3 _ _ _ _ _ _ _ _ _
   | exact ih4 _ _ _ _ _ _ _ _ _ _
   | exact ih5 _ _ _ _ _ _ _ _ _ _ _ _
   | exact ih6 _ _ _ _ _ _ _ _ _ _ _ _ _
   | exact flow_Value.mono _ _ _ _ _ _
   | exact racewaylaw6_made.mono _ _ _ _
   | exact racewaylaw6_routed.mono _ _ _ _ _ _
   | exact racewaylaw6_shown.mono _
   | exact racewayref5_Same.mono _ _ _
   | exact residual_Ends.mono _ _ _ _ _ _
   | exact residual_From.mono _ _ _ _ _ _
   | exact residual_Push.mono _ _ _ _ _ _ _ _
   | exact residual_Room.mono _ _ _ _ _ _
   | exact LeO.none _
   | refine LeO.ite ?_ ?_
   | refine LeO.bind ?_ (fun _ => ?_)
  ·intro y0 y1 y2 y3 y4 y5 y6 y7 y8 y9 y10 y11 y12
   unfold racewaylaw6_ResidualPushes.j3
   repeat' first
   | (with_reducible exact ih0 _ _ _ _ _ _ _)
   | (with_reducible exact ih1 _ _ _ _ _ _ _ _)
   | (with_reducible exact ih2 _ _ _ _ _ _ _ _)
   | (with_reducible exact ih3 _ _ _ _ _ _ _ _ _)
   | (with_reducible exact ih4 _ _ _ _ _ _ _ _ _ _)
   | (with_reducible exact ih5 _ _ _ _ _ _ _ _ _ _ _ _)
   | (with_reducible exact ih6 _ _ _ _ _ _ _ _ _ _ _ _ _)
   | (with_reducible exact flow_Value.mono _ _ _ _ _ _)
   | (with_reducible exact racewaylaw6_made.mono _ _ _ _)
   | (with_reducible exact racewaylaw6_routed.mono _ _ _ _ _ _)
   | (with_reducible exact racewaylaw6_shown.mono _)
   | (with_reducible exact racewayref5_Same.mono _ _ _)
   | (with_reducible exact residual_Ends.mono _ _ _ _ _ _)
   | (with_reducible exact residual_From.mono _ _ _ _ _ _)
   | (with_reducible exact residual_Push.mono _ _ _ _ _ _ _ _)
   | (with_reducible exact residual_Room.mono _ _ _ _ _ _)
   | (with_reducible exact LeO.refl _)
   | (with_reducible exact LeO.none _)
   | (with_reducible refine LeO.ite ?_ ?_)
   | (with_reducible refine LeO.bind ?_ (fun _ => ?_))
   | exact ih0 _ _ _ _ _ _ _
   | exact ih1 _ _ _ _ _ _ _ _
   | exact ih2 _ _ _ _ _ _ _ _
   | exact ih3 _ _ _ _ _ _ _ _ _
   | exact ih4 _ _ _ _ _ _ _ _ _ _
   | exact ih5 _ _ _ _ _ _ _ _ _ _ _ _
   | exact ih6 _ _ _ _ _ _ _ _ _ _ _ _ _
   | exact flow_Value.mono _ _ _ _ _ _
   | exact racewaylaw6_made.mono _ _ _ _
   | exact racewaylaw6_routed.mono _ _ _ _ _ _
   | exact racewaylaw6_shown.mono _
   | exact racewayref5_Same.mono _ _ _
   | exact residual_Ends.mono _ _ _ _ _ _
   | exact residual_From.mono _ _ _ _ _ _
   | exact residual_Push.mono _ _ _ _ _ _ _ _
   | exact residual_Room.mono _ _ _ _ _ _
   | exact LeO.none _
   | refine LeO.ite ?_ ?_
   | refine LeO.bind ?_ (fun _ => ?_)
theorem racewaylaw6_ResidualPushes.mono : ∀ a0 a1 a2 a3 a4 k, LeO (racewaylaw6_ResidualPushes.f k a0 a1 a2 a3 a4) (racewaylaw6_ResidualPushes.f (k + 1) a0 a1 a2 a3 a4) := by
 intro a0 a1 a2 a3 a4 k
 obtain ⟨ih0, ih1, ih2, ih3, ih4, ih5, ih6⟩ := racewaylaw6_ResidualPushes.mono_l k
 unfold racewaylaw6_ResidualPushes.f
 repeat' first
   | (with_reducible exact ih0 _ _ _ _ _ _ _)
   | (with_reducible exact ih1 _ _ _ _ _ _ _ _)
   | (with_reducible exact ih2 _ _ _ _ _ _ _ _)
   | (with_reducible exact ih3 _ _ _ _ _ _ _ _ _)
   | (with_reducible exact ih4 _ _ _ _ _ _ _ _ _ _)
   | (with_reducible exact ih5 _ _ _ _ _ _ _ _ _ _ _ _)
   | (with_reducible exact ih6 _ _ _ _ _ _ _ _ _ _ _ _ _)
   | (with_reducible exact flow_Value.mono _ _ _ _ _ _)
   | (with_reducible exact racewaylaw6_made.mono _ _ _ _)
   | (with_reducible exact racewaylaw6_routed.mono _ _ _ _ _ _)
   | (with_reducible exact racewaylaw6_shown.mono _)
   | (with_reducible exact racewayref5_Same.mono _ _ _)
   | (with_reducible exact residual_Ends.mono _ _ _ _ _ _)
   | (with_reducible exact residual_From.mono _ _ _ _ _ _)
   | (with_reducible exact residual_Push.mono _ _ _ _ _ _ _ _)
   | (with_reducible exact residual_Room.mono _ _ _ _ _ _)
   | (with_reducible exact LeO.refl _)
   | (with_reducible exact LeO.none _)
   | (with_reducible refine LeO.ite ?_ ?_)
   | (with_reducible refine LeO.bind ?_ (fun _ => ?_))
   | exact ih0 _ _ _ _ _ _ _
   | exact ih1 _ _ _ _ _ _ _ _
   | exact ih2 _ _ _ _ _ _ _ _
   | exact ih3 _ _ _ _ _ _ _ _ _
   | exact ih4 _ _ _ _ _ _ _ _ _ _
   | exact ih5 _ _ _ _ _ _ _ _ _ _ _ _
   | exact ih6 _ _ _ _ _ _ _ _ _ _ _ _ _
   | exact flow_Value.mono _ _ _ _ _ _
   | exact racewaylaw6_made.mono _ _ _ _
   | exact racewaylaw6_routed.mono _ _ _ _ _ _
   | exact racewaylaw6_shown.mono _
   | exact racewayref5_Same.mono _ _ _
   | exact residual_Ends.mono _ _ _ _ _ _
   | exact residual_From.mono _ _ _ _ _ _
   | exact residual_Push.mono _ _ _ _ _ _ _ _
   | exact residual_Room.mono _ _ _ _ _ _
   | exact LeO.none _
   | refine LeO.ite ?_ ?_
   | refine LeO.bind ?_ (fun _ => ?_)
set_option maxHeartbeats 8000000 in
set_option maxRecDepth 100000 in
theorem racewaylaw6_ResidualPushes.calls (k : Nat) (a0 : Int) (a1 : Int) (A2 : Option Addr) (c2 : Nat) (l2 : List (S68)) (A3 : Option Addr) (c3 : Nat) (l3 : List Int) (A4 : Option Addr) (c4 : Nat) (l4 : List Int) (r : Bool) (w : World) (hr2 : Kd.C k68 w A2 l2.length l2) (hc2 : l2.length ≤ c2) (hr3 : Kd.C (Kd.int .i64) w A3 l3.length l3) (hc3 : l3.length ≤ c3) (hr4 : Kd.C (Kd.int .i64) w A4 l4.length l4) (hc4 : l4.length ≤ c4) (h : racewaylaw6_ResidualPushes.f k a0 a1 l2 l3 l4 = some r) (hrT_ : Aside0 (r = true)) :
  Calls Try.prog 8 #[.int .i64 a0, .int .i64 a1, .slice A2 l2.length c2, .slice A3 l3.length c3, .slice A4 l4.length c4] w fun e w' => e = .returned (.bool r) ∧ Below w.heap.size w w' := by
 have hu27 := Try.underlying27
 have HR2 := Aside0.mk hr2
 have HC2 := Aside0.mk hc2
 clear hr2 hc2
 have HR3 := Aside0.mk hr3
 have HC3 := Aside0.mk hc3
 clear hr3 hc3
 have HR4 := Aside0.mk hr4
 have HC4 := Aside0.mk hc4
 clear hr4 hc4
 have HB := Aside0.mk (Below.refl w.heap.size w)
 have H : ((racewaylaw6_shown.f k).bind fun t234 => (if t234 = true then (racewaylaw6_ResidualPushes.j0 k a0 a1 l2 l3 l4 t234 (decide ((l4.length : Int) > 60))) else (racewaylaw6_ResidualPushes.j0 k a0 a1 l2 l3 l4 t234 true))) = some r := h
 clear h
 replace H := Option.bind_eq_some_iff.mp H
 obtain ⟨t234, A60, H⟩ := H
 replace H : (if t234 = true then (racewaylaw6_ResidualPushes.j0 k a0 a1 l2 l3 l4 t234 (decide ((l4.length : Int) > 60))) else (racewaylaw6_ResidualPushes.j0 k a0 a1 l2 l3 l4 t234 true)) = some r := H
 have A6 := Aside0.mk A60
 clear A60
 have HC7 := Aside0.mk H
 clear H
 go_enter Try.func8, Try.ntmps8
 go_upto_region 2 with (first | ((with_reducible refine gate_callee (f := 14) rfl ?_); refine goesL_ (some 40) rfl rfl Try.func14 (by kernel_rfl) rfl #[] rfl (by (try simp only [List.map_toArray, List.map_cons, List.map_nil]); first | done | rfl | (simp only [List.length_drop, List.length_take]; rfl)) ?_; (with_reducible refine (racewaylaw6_shown.calls k  t234 _ A6.out).mono ?_); rintro e w8 ⟨rfl, hb⟩; refine ⟨_, rfl, ?_⟩; have n0_ := Aside0.mk (below_step (by repeat (first | (with_reducible first | exact HB.out | apply below_alloc | apply pw_below_drewN | apply below_drew1) | exact HB.out)) hb); clear HB; have HB := n0_; clear n0_; (try clear hb); (try clear hb2); (try clear hk); (try clear hi)))
 (try simp only [Act.put, List.setIfInBounds_toArray, List.set_cons_zero, List.set_cons_succ])
 go_cut [47] (fun v47 wc => ∃ (kq : Nat) (x47_6 : Bool), v47 = .bool x47_6 ∧ Aside0 (racewaylaw6_ResidualPushes.j0 kq a0 a1 l2 l3 l4 t234 x47_6 = some r) ∧ Aside0 (kq ≤ k) ∧ Aside0 (Below w.heap.size w wc))
 case first =>
  have H := HC7.out
  clear HC7
  by_cases c9 : t234 = true
  ·subst c9
   (have H1 : (racewaylaw6_ResidualPushes.j0 k a0 a1 l2 l3 l4 true (decide ((l4.length : Int) > 60))) = some r := by rw [if_pos rfl] at H; exact H);(clear H);(have H := H1);(clear H1)
   as_aux_lemma =>
    (have H' := Aside0.mk H);(clear H)
    go_wp2
    go_meet
    case rel => exact ⟨_, (decide ((l4.length : Int) > 60)), (by first | rfl | (simp; done) | (simp [*]; done)), H', ⟨by first | omega | exact Nat.le_refl _⟩, ⟨by repeat (first | (with_reducible first | exact HB.out | apply below_alloc | apply pw_below_drewN | apply below_drew1) | exact HB.out)⟩⟩
  ·replace c9 := Bool.eq_false_iff.mpr c9
   (subst c9);(have H1 : (racewaylaw6_ResidualPushes.j0 k a0 a1 l2 l3 l4 false true) = some r := by rw [if_neg (show ¬ (false = true) by decide)] at H; exact H);(clear H);(have H := H1);(clear H1)
   as_aux_lemma =>
    (have H' := Aside0.mk H);(clear H)
    go_wp2
    go_meet
    case rel => exact ⟨_, (true), (by first | rfl | (simp; done) | (simp [*]; done)), H', ⟨by first | omega | exact Nat.le_refl _⟩, ⟨by repeat (first | (with_reducible first | exact HB.out | apply below_alloc | apply pw_below_drewN | apply below_drew1) | exact HB.out)⟩⟩
 case rest =>
  clear HC7
  try clear c1
  try clear c2
  try clear p2
  try clear c3
  try clear c4
  try clear c8
  try clear c9
  obtain ⟨kq, x47_6, rfl, HA, HJ6, HB⟩ := hcut
  cases kq with
  | zero => exact absurd HA.out (by simp [racewaylaw6_ResidualPushes.j0])
  | succ kj6 =>
   (have H := HA.out);(clear HA);(simp only [racewaylaw6_ResidualPushes.j0] at H)
   by_cases c10 : x47_6 = true
   ·(subst c10);(have H1 : (some t234) = some r := by rw [if_pos rfl] at H; exact H);(clear H);(have H := H1);(clear H1)
    as_aux_lemma =>
     obtain rfl := Option.some.inj H
     go_wp2
     go_ret
     exact ⟨by first | rfl | (simp [errW_none, errW_some] <;> rfl) | (simp [*, errW_none, errW_some] <;> rfl), by repeat (first | (with_reducible first | exact HB.out | apply below_alloc | apply pw_below_drewN | apply below_drew1) | exact HB.out)⟩
   ·(replace c10 := Bool.eq_false_iff.mpr c10);(subst c10);(have H1 : ((racewaylaw6_made.f kj6 a0 a1 l2).bind fun bt235 => ((racewaylaw6_routed.f kj6 bt235.1 bt235.2.1 bt235.2.2.1 bt235.2.2.2 l3).bind fun t242 => ((residual_Room.f kj6 bt235.1 bt235.2.1 bt235.2.2.1 bt235.2.2.2 t242).bind fun bt245 => (if bt245.2 = 0 then (racewaylaw6_ResidualPushes.j1 kj6 l4 t242 bt245.1 ((bt245.1.length : Int) != (wrap64 (2 * (bt235.2.2.2.length : Int)))) bt235.1 bt235.2.1 bt235.2.2.1 bt235.2.2.2) else (racewaylaw6_ResidualPushes.j1 kj6 l4 t242 bt245.1 true bt235.1 bt235.2.1 bt235.2.2.1 bt235.2.2.2))))) = some r := by rw [if_neg (show ¬ (false = true) by decide)] at H; exact H);(clear H);(have H := H1);(clear H1);(replace H := Option.bind_eq_some_iff.mp H);(obtain ⟨⟨t235, t236, t237, t238⟩, A110, H⟩ := H);(replace H : ((racewaylaw6_routed.f kj6 t235 t236 t237 t238 l3).bind fun t242 => ((residual_Room.f kj6 t235 t236 t237 t238 t242).bind fun bt245 => (if bt245.2 = 0 then (racewaylaw6_ResidualPushes.j1 kj6 l4 t242 bt245.1 ((bt245.1.length : Int) != (wrap64 (2 * (t238.length : Int)))) t235 t236 t237 t238) else (racewaylaw6_ResidualPushes.j1 kj6 l4 t242 bt245.1 true t235 t236 t237 t238)))) = some r := H);(have A11 := Aside0.mk A110);(clear A110);(replace H := Option.bind_eq_some_iff.mp H);(obtain ⟨t242, A120, H⟩ := H);(replace H : ((residual_Room.f kj6 t235 t236 t237 t238 t242).bind fun bt245 => (if bt245.2 = 0 then (racewaylaw6_ResidualPushes.j1 kj6 l4 t242 bt245.1 ((bt245.1.length : Int) != (wrap64 (2 * (t238.length : Int)))) t235 t236 t237 t238) else (racewaylaw6_ResidualPushes.j1 kj6 l4 t242 bt245.1 true t235 t236 t237 t238))) = some r := H);(have A12 := Aside0.mk A120);(clear A120);(replace H := Option.bind_eq_some_iff.mp H);(obtain ⟨⟨t245, t248⟩, A130, H⟩ := H);(replace H : (if t248 = 0 then (racewaylaw6_ResidualPushes.j1 kj6 l4 t242 t245 ((t245.length : Int) != (wrap64 (2 * (t238.length : Int)))) t235 t236 t237 t238) else (racewaylaw6_ResidualPushes.j1 kj6 l4 t242 t245 true t235 t236 t237 t238)) = some r := H);(have A13 := Aside0.mk A130);(clear A130);(have HC14 := Aside0.mk H);(clear H)
    go_upto_region 7 with (first | ((with_reducible refine gate_callee (f := 15) rfl ?_); refine goesL_ (some 52) rfl rfl Try.func15 (by kernel_rfl) rfl #[.int .i64 a0, .int .i64 a1, .slice A2 l2.length c2] rfl (by (try simp only [List.map_toArray, List.map_cons, List.map_nil]); first | done | rfl | (simp only [List.length_drop, List.length_take]; rfl)) ?_; (with_reducible refine (racewaylaw6_made.calls kj6 a0 a1 _ _ l2 t235 t236 t237 t238 _ ?side1 ?side2 A11.out).mono ?_); (case side1 => repeat (first | exact (Kd.C_below HR2.out HB.out) | (with_reducible refine Kd.C_alloc ?_ _) | (with_reducible refine Kd.C_drewN ?_ _) | (with_reducible refine Kd.C_drew ?_))); (case side2 => exact HC2.out); rintro e w15 ⟨v239, rfl, ho0, hb⟩; refine ⟨_, rfl, ?_⟩; have n0_ := Aside0.mk (Kd.R_lower ho0 (below_size (by repeat (first | (with_reducible first | exact HB.out | apply below_alloc | apply pw_below_drewN | apply below_drew1) | exact HB.out)))); have n1_ := Aside0.mk (below_step (by repeat (first | (with_reducible first | exact HB.out | apply below_alloc | apply pw_below_drewN | apply below_drew1) | exact HB.out)) hb); clear HB; have HO240 := n0_; have HB := n1_; clear n0_ n1_; (try clear hb); (try clear hb2); (try clear hk); (try clear hi); (try clear ho0)) | ((with_reducible refine gate_dst (N := 12) rfl ?_); (try (refine gate_guard (by rfl) ?_; dsimp only)); refine box_event ?hg (N := 12) ?hd (cs := #[.int .i64 0, .int .i64 0, .int .i64 0, .slice none 0 0]) (t := 27) ?hr ?_; (case hd => rfl); (case hg => rfl); (case hr => first | (go_simp; done) | (go_simp; rfl)); intro gb241 hg w16 hbox hb; have n0_ := Aside0.mk (Kd.R_below (by (with_reducible repeat first | apply Kd.R_alloc | apply Kd.R_drewN | apply Kd.R_drew); exact HO240.out) hb); have n1_ := Aside0.mk (below_step (by repeat (first | (with_reducible first | exact HB.out | apply below_alloc | apply pw_below_drewN | apply below_drew1) | exact HB.out)) hb); have n2_ := Aside0.mk (hbox); have n3_ := Aside0.mk ((by rw [hg]; exact (below_size (by repeat (first | (with_reducible first | exact HB.out | apply below_alloc | apply pw_below_drewN | apply below_drew1) | exact HB.out))) : w.heap.size ≤ gb241)); have n4_ := Aside0.mk ((by rw [hg]; exact (below_size (by repeat (first | (with_reducible first | exact HB.out | apply below_alloc | apply pw_below_drewN | apply below_drew1) | exact HB.out))) : w.heap.size ≤ gb241)); clear HO240; clear HB; have HO240 := n0_; have HB := n1_; have BK241 := n2_; have GW241 := n3_; have GE241 := n4_; clear n0_ n1_ n2_ n3_ n4_; clear hb hbox hg; have hcz17_0 : w16.cell? ⟨gb241, 0, none⟩ = some (.int .i64 0) := (blk_cell BK241.out 0).trans rfl; have hcz17_1 : w16.cell? ⟨gb241, 1, none⟩ = some (.int .i64 0) := (blk_cell BK241.out 1).trans rfl; have hcz17_2 : w16.cell? ⟨gb241, 2, none⟩ = some (.int .i64 0) := (blk_cell BK241.out 2).trans rfl; have hcz17_3 : w16.cell? ⟨gb241, 3, none⟩ = some (.slice none 0 0) := (blk_cell BK241.out 3).trans rfl; have hfz17_0 := blk_frozen BK241.out 0; have hfz17_1 := blk_frozen BK241.out 1; have hfz17_2 := blk_frozen BK241.out 2; have hfz17_3 := blk_frozen BK241.out 3; obtain ⟨Ao18, co18, eo18⟩ := Kd.R_slice HO240.out; subst eo18) | ((with_reducible refine gate_callee (f := 16) rfl ?_); refine goesL_ (some 55) rfl rfl Try.func16 (by kernel_rfl) rfl #[.agg #[.int .i64 t235, .int .i64 t236, .int .i64 t237, .slice Ao18 t238.length co18], .slice A3 l3.length c3] rfl (by (try simp only [List.map_toArray, List.map_cons, List.map_nil]); first | done | rfl | (simp only [List.length_drop, List.length_take]; rfl)) ?_; (with_reducible refine (racewaylaw6_routed.calls kj6 t235 t236 t237 _ _ t238 _ _ l3 t242 _ ?side1 ?side2 ?side3 ?side4 A12.out).mono ?_); (case side1 => refine (Kd.R_reads' (e := 49) (base := w.heap.size) (ok := fun k_ => True) (n := t238.length) (c := co18) ?_).2.2; exact (by (with_reducible repeat first | apply Kd.R_alloc | apply Kd.R_drewN | apply Kd.R_drew); exact (Kd.R_mono (Kd.R_far (p := ⟨gb241, 3, none⟩) (Kd.R_far (p := ⟨gb241, 2, none⟩) (Kd.R_far (p := ⟨gb241, 1, none⟩) (Kd.R_far (p := ⟨gb241, 0, none⟩) (Kd.R_types HO240.out BK241.out (by decide)) (fun _ hk => hk.2) (.int .i64 t235)) (fun _ hk => hk.2) (.int .i64 t236)) (fun _ hk => hk.2) (.int .i64 t237)) (fun _ hk => hk.2) (.slice Ao18 t238.length co18)) (fun _ h_ => h_.1)))); (case side2 => exact (Kd.R_reads' HO240.out).2.1); (case side3 => exact Kd.C_below HR3.out (by repeat (first | (with_reducible first | exact HB.out | apply below_alloc | apply pw_below_drewN | apply below_drew1 | refine below_set ?_ GE241.out) | exact HB.out))); (case side4 => exact HC3.out); rintro e w19 ⟨v243, rfl, ho0, hb⟩; refine ⟨_, rfl, ?_⟩; have n0_ := Aside0.mk (Kd.R_below (by (with_reducible repeat first | apply Kd.R_alloc | apply Kd.R_drewN | apply Kd.R_drew); exact (Kd.R_mono (Kd.R_far (p := ⟨gb241, 3, none⟩) (Kd.R_far (p := ⟨gb241, 2, none⟩) (Kd.R_far (p := ⟨gb241, 1, none⟩) (Kd.R_far (p := ⟨gb241, 0, none⟩) (Kd.R_types HO240.out BK241.out (by decide)) (fun _ hk => hk.2) (.int .i64 t235)) (fun _ hk => hk.2) (.int .i64 t236)) (fun _ hk => hk.2) (.int .i64 t237)) (fun _ hk => hk.2) (.slice Ao18 t238.length co18)) (fun _ h_ => h_.1))) hb); have n1_ := Aside0.mk (Kd.R_lower ho0 (below_size (by repeat (first | (with_reducible first | exact HB.out | apply below_alloc | apply pw_below_drewN | apply below_drew1 | refine below_set ?_ GE241.out) | exact HB.out)))); have n2_ := Aside0.mk (blk_below (g := gb241) (o := .cells #[.int .i64 t235, .int .i64 t236, .int .i64 t237, .slice Ao18 t238.length co18] 27 (0, 0)) (by (with_reducible repeat first | refine blk_drewN ?_ _ | refine blk_drew ?_ | refine blk_alloc ?_ _); refine blk_put (cs := #[.int .i64 t235, .int .i64 t236, .int .i64 t237, .slice none 0 0]) ?_ 3 _ rfl; (with_reducible repeat first | refine blk_drewN ?_ _ | refine blk_drew ?_ | refine blk_alloc ?_ _); refine blk_put (cs := #[.int .i64 t235, .int .i64 t236, .int .i64 0, .slice none 0 0]) ?_ 2 _ rfl; (with_reducible repeat first | refine blk_drewN ?_ _ | refine blk_drew ?_ | refine blk_alloc ?_ _); refine blk_put (cs := #[.int .i64 t235, .int .i64 0, .int .i64 0, .slice none 0 0]) ?_ 1 _ rfl; (with_reducible repeat first | refine blk_drewN ?_ _ | refine blk_drew ?_ | refine blk_alloc ?_ _); refine blk_put (cs := #[.int .i64 0, .int .i64 0, .int .i64 0, .slice none 0 0]) ?_ 0 _ rfl; (with_reducible repeat first | refine blk_drewN ?_ _ | refine blk_drew ?_ | refine blk_alloc ?_ _); exact BK241.out) hb); have n3_ := Aside0.mk (below_step (by repeat (first | (with_reducible first | exact HB.out | apply below_alloc | apply pw_below_drewN | apply below_drew1 | refine below_set ?_ GE241.out) | exact HB.out)) hb); clear HO240; clear BK241; clear HB; have HO240 := n0_; have HO244 := n1_; have BK241 := n2_; have HB := n3_; clear n0_ n1_ n2_ n3_; (try clear hb); (try clear hb2); (try clear hk); (try clear hi); (try clear ho0); have hcz20_0 : w19.cell? ⟨gb241, 0, none⟩ = some (.int .i64 t235) := (blk_cell BK241.out 0).trans rfl; have hcz20_1 : w19.cell? ⟨gb241, 1, none⟩ = some (.int .i64 t236) := (blk_cell BK241.out 1).trans rfl; have hcz20_2 : w19.cell? ⟨gb241, 2, none⟩ = some (.int .i64 t237) := (blk_cell BK241.out 2).trans rfl; have hcz20_3 : w19.cell? ⟨gb241, 3, none⟩ = some (.slice Ao18 t238.length co18) := (blk_cell BK241.out 3).trans rfl; have hfz20_0 := blk_frozen BK241.out 0; have hfz20_1 := blk_frozen BK241.out 1; have hfz20_2 := blk_frozen BK241.out 2; have hfz20_3 := blk_frozen BK241.out 3; obtain ⟨Ao21, co21, eo21⟩ := Kd.R_slice HO244.out; subst eo21) | ((with_reducible refine gate_callee (f := 18) rfl ?_); refine goesL_ (some 59) rfl rfl Try.func18 (by kernel_rfl) rfl #[.agg #[.int .i64 t235, .int .i64 t236, .int .i64 t237, .slice Ao18 t238.length co18], .slice Ao21 t242.length co21] rfl (by (try simp only [List.map_toArray, List.map_cons, List.map_nil]); first | done | rfl | (simp only [List.length_drop, List.length_take]; rfl)) ?_; (with_reducible refine (residual_Room.calls kj6 t235 t236 t237 _ _ t238 _ _ t242 t245 t248 _ ?side1 ?side2 ?side3 ?side4 A13.out).mono ?_); (case side1 => repeat (first | exact (Kd.R_reads' HO240.out).2.2 | (with_reducible refine Kd.C_alloc ?_ _) | (with_reducible refine Kd.C_drewN ?_ _) | (with_reducible refine Kd.C_drew ?_))); (case side2 => exact (Kd.R_reads' HO240.out).2.1); (case side3 => repeat (first | exact (Kd.R_reads' HO244.out).2.2 | (with_reducible refine Kd.C_alloc ?_ _) | (with_reducible refine Kd.C_drewN ?_ _) | (with_reducible refine Kd.C_drew ?_))); (case side4 => exact (Kd.R_reads' HO244.out).2.1); rintro e w22 ⟨v246, rfl, ho0, hb⟩; refine ⟨_, rfl, ?_⟩; have n0_ := Aside0.mk (Kd.R_below (by (with_reducible repeat first | apply Kd.R_alloc | apply Kd.R_drewN | apply Kd.R_drew); exact HO240.out) hb); have n1_ := Aside0.mk (Kd.R_elder' (by (with_reducible repeat first | apply Kd.R_alloc | apply Kd.R_drewN | apply Kd.R_drew); exact HO244.out) (Kd.R_base ho0) hb); have n2_ := Aside0.mk (Kd.R_lower (Kd.R_new' ho0 (Kd.R_lt (by (with_reducible repeat first | apply Kd.R_alloc | apply Kd.R_drewN | apply Kd.R_drew); exact HO244.out))) (below_size (by repeat (first | (with_reducible first | exact HB.out | apply below_alloc | apply pw_below_drewN | apply below_drew1 | refine below_set ?_ GE241.out) | exact HB.out)))); have n3_ := Aside0.mk (blk_below (g := gb241) (o := .cells #[.int .i64 t235, .int .i64 t236, .int .i64 t237, .slice Ao18 t238.length co18] 27 (0, 0)) (by (with_reducible repeat first | refine blk_drewN ?_ _ | refine blk_drew ?_ | refine blk_alloc ?_ _); exact BK241.out) hb); have n4_ := Aside0.mk (below_step (by repeat (first | (with_reducible first | exact HB.out | apply below_alloc | apply pw_below_drewN | apply below_drew1 | refine below_set ?_ GE241.out) | exact HB.out)) hb); clear HO240; clear HO244; clear BK241; clear HB; have HO240 := n0_; have HO244 := n1_; have HO247 := n2_; have BK241 := n3_; have HB := n4_; clear n0_ n1_ n2_ n3_ n4_; (try clear hb); (try clear hb2); (try clear hk); (try clear hi); (try clear ho0)))
    (try simp only [Act.put, List.setIfInBounds_toArray, List.set_cons_zero, List.set_cons_succ])
    go_cut [72] (fun v72 wc => ∃ (kq : Nat) (x72_13 : Bool), v72 = .bool x72_13 ∧ Aside0 (racewaylaw6_ResidualPushes.j1 kq l4 t242 t245 x72_13 t235 t236 t237 t238 = some r) ∧ Aside0 (kq ≤ kj6) ∧ Aside0 (Kd.R (Kd.int .i64) 2 wc w.heap.size (fun k_ => some k_ ≠ (v246 : Value).ownBlock) (.slice Ao21 t242.length co21) t242) ∧ Aside0 (Kd.R (Kd.int .i64) 2 wc w.heap.size (fun k_ => some k_ ≠ ((.slice Ao21 t242.length co21) : Value).ownBlock) v246 t245) ∧ Aside0 (Kd.R k49 49 wc w.heap.size (fun _ => True) (.slice Ao18 t238.length co18) t238) ∧ Aside0 (wc.heap[gb241]? = some (.cells #[.int .i64 t235, .int .i64 t236, .int .i64 t237, (.slice Ao18 t238.length co18)] 27 (0, 0))) ∧ Aside0 (Below w.heap.size w wc))
    case first =>
     (have H := HC14.out);(clear HC14)
     by_cases c23 : t248 = 0
     ·(rw [if_pos c23] at H);(have c23b0 : (t248 == 0) = true := beq_iff_eq.mpr c23);(have c23b1 : (t248 != 0) = false := bne_eq_false_iff_eq.mpr c23);(clear c23);((first | rw [c23b0] | (simp only [i64_w, i32_w]; rw [c23b0]) | skip))
      as_aux_lemma =>
       (have H' := Aside0.mk H);(clear H);(obtain ⟨Ao24, co24, eo24⟩ := Kd.R_slice HO247.out);(subst eo24);(have hcz25_0 : w22.cell? ⟨gb241, 0, none⟩ = some (.int .i64 t235) := (blk_cell BK241.out 0).trans rfl);(have hcz25_1 : w22.cell? ⟨gb241, 1, none⟩ = some (.int .i64 t236) := (blk_cell BK241.out 1).trans rfl);(have hcz25_2 : w22.cell? ⟨gb241, 2, none⟩ = some (.int .i64 t237) := (blk_cell BK241.out 2).trans rfl);(have hcz25_3 : w22.cell? ⟨gb241, 3, none⟩ = some (.slice Ao18 t238.length co18) := (blk_cell BK241.out 3).trans rfl);(have hfz25_0 := blk_frozen BK241.out 0);(have hfz25_1 := blk_frozen BK241.out 1);(have hfz25_2 := blk_frozen BK241.out 2);(have hfz25_3 := blk_frozen BK241.out 3)
       go_wp2
       go_meet
       case rel => exact ⟨_, (((t245.length : Int) != (wrap64 (2 * (t238.length : Int))))), (by first | rfl | (simp; done) | (simp [*]; done)), H', ⟨by have := HJ6.out; first | omega | exact Nat.le_refl _⟩, ⟨by (with_reducible repeat first | apply Kd.R_alloc | apply Kd.R_drewN | apply Kd.R_drew); exact Kd.R_mono HO244.out (fun _ hk => hk.2)⟩, ⟨by (with_reducible repeat first | apply Kd.R_alloc | apply Kd.R_drewN | apply Kd.R_drew); exact Kd.R_mono HO247.out (fun _ hk => hk.2)⟩, ⟨by (with_reducible repeat first | apply Kd.R_alloc | apply Kd.R_drewN | apply Kd.R_drew); exact HO240.out⟩, ⟨by (with_reducible repeat first | refine blk_drewN ?_ _ | refine blk_drew ?_ | refine blk_alloc ?_ _); exact BK241.out⟩, ⟨by repeat (first | (with_reducible first | exact HB.out | apply below_alloc | apply pw_below_drewN | apply below_drew1 | refine below_set ?_ GE241.out) | exact HB.out)⟩⟩
     ·(rw [if_neg c23] at H);(have c23b0 : (t248 == 0) = false := beq_eq_false_iff_ne.mpr c23);(have c23b1 : (t248 != 0) = true := bne_iff_ne.mpr c23);((first | rw [c23b0] | (simp only [i64_w, i32_w]; rw [c23b0]) | skip))
      as_aux_lemma =>
       (have H' := Aside0.mk H);(clear H)
       go_wp2
       go_meet
       case rel => exact ⟨_, (true), (by first | rfl | (simp; done) | (simp [*]; done)), H', ⟨by have := HJ6.out; first | omega | exact Nat.le_refl _⟩, ⟨by (with_reducible repeat first | apply Kd.R_alloc | apply Kd.R_drewN | apply Kd.R_drew); exact Kd.R_mono HO244.out (fun _ hk => hk.2)⟩, ⟨by (with_reducible repeat first | apply Kd.R_alloc | apply Kd.R_drewN | apply Kd.R_drew); exact Kd.R_mono HO247.out (fun _ hk => hk.2)⟩, ⟨by (with_reducible repeat first | apply Kd.R_alloc | apply Kd.R_drewN | apply Kd.R_drew); exact HO240.out⟩, ⟨by (with_reducible repeat first | refine blk_drewN ?_ _ | refine blk_drew ?_ | refine blk_alloc ?_ _); exact BK241.out⟩, ⟨by repeat (first | (with_reducible first | exact HB.out | apply below_alloc | apply pw_below_drewN | apply below_drew1 | refine below_set ?_ GE241.out) | exact HB.out)⟩⟩
    case rest =>
     clear HC14
     try clear c1
     try clear c2
     try clear p2
     try clear c3
     try clear c4
     try clear p6
     try clear c8
     try clear c9
     try clear c10
     try clear c14
     try clear c15
     try clear c16
     try clear c18
     try clear c23
     try clear c23b0
     try clear c23b1
     try clear hcz17_0
     try clear hcz17_1
     try clear hcz17_2
     try clear hcz17_3
     try clear hcz20_0
     try clear hcz20_1
     try clear hcz20_2
     try clear hcz20_3
     try clear hcz25_0
     try clear hcz25_1
     try clear hcz25_2
     try clear hcz25_3
     try clear hfz17_0
     try clear hfz17_1
     try clear hfz17_2
     try clear hfz17_3
     try clear hfz20_0
     try clear hfz20_1
     try clear hfz20_2
     try clear hfz20_3
     try clear hfz25_0
     try clear hfz25_1
     try clear hfz25_2
     try clear hfz25_3
     try clear p2
     obtain ⟨kq, x72_13, rfl, HA, HJ13, HO_13, HO_14, HO_242003, BK241, HB⟩ := hcut
     cases kq with
     | zero => exact absurd HA.out (by simp [racewaylaw6_ResidualPushes.j1])
     | succ kj13 =>
      (have H := HA.out);(clear HA);(simp only [racewaylaw6_ResidualPushes.j1] at H)
      by_cases c26 : x72_13 = true
      ·(subst c26);(have H1 : (some false) = some r := by rw [if_pos rfl] at H; exact H);(clear H);(have H := H1);(clear H1);(exact absurd ((Option.some.inj H).trans hrT_.out) (by simp))
      ·(replace c26 := Bool.eq_false_iff.mpr c26);(subst c26);(have H1 : (if 0 ≤ (wrap64 (t235 + 1)) then (if (wrap64 (t235 + 1) : Int).toNat ≤ 281474976710656 then (racewaylaw6_ResidualPushes.l0 kj13 l4 t242 t245 (List.replicate (wrap64 (t235 + 1) : Int).toNat false) t236 1099511627776 ([] : List Int) 0 t235 t236 t237 t238) else (none)) else (none)) = some r := by rw [if_neg (show ¬ (false = true) by decide)] at H; exact H);(clear H);(have H := H1);(clear H1);(obtain ⟨ji27, hji27⟩ : ∃ j_ : Int, (wrap64 (t235 + 1)) = j_ := ⟨_, rfl⟩);(replace H : (if 0 ≤ (ji27) then (if (ji27 : Int).toNat ≤ 281474976710656 then (racewaylaw6_ResidualPushes.l0 kj13 l4 t242 t245 (List.replicate (ji27 : Int).toNat false) t236 1099511627776 ([] : List Int) 0 t235 t236 t237 t238) else (none)) else (none)) = some r := by first | (rw [hji27] at H; exact H) | (simp only [hji27] at H ⊢; exact H));(have hji27w : (IntKind.i64.wrap (t235 + 1)) = ji27 := (i64_w _).trans hji27)
       by_cases c28 : 0 ≤ (ji27)
       ·(rw [if_pos c28] at H);(have c28b0 := eq_true c28);(have c28b1 : decide (0 ≤ (ji27)) = true := decide_eq_true c28);(clear c28)
        by_cases c29 : (ji27 : Int).toNat ≤ 281474976710656
        ·(rw [if_pos c29] at H);(have c29b0 := eq_true c29);(have c29b1 : decide ((ji27 : Int).toNat ≤ 281474976710656) = true := decide_eq_true c29);(clear c29);(obtain ⟨y249, hy249⟩ : ∃ y_ : List Bool, y_ = (List.replicate (ji27 : Int).toNat false) := ⟨_, rfl⟩);(replace H : (racewaylaw6_ResidualPushes.l0 kj13 l4 t242 t245 y249 t236 1099511627776 ([] : List Int) 0 t235 t236 t237 t238) = some r := by first | (rw [hy249]; with_reducible exact H) | (have H2_ := (Option.bind_some _ _).symm.trans H; rw [hy249]; with_reducible exact H2_) | (have H2_ := (Option.bind_some _ _).symm.trans H; with_reducible exact H2_) | with_reducible exact H | (rw [hy249]; exact H) | exact H);(have Ny249 := Aside0.mk hy249);(clear hy249);(have HC30 := Aside0.mk H);(clear H);(have hcz31_0 : wc.cell? ⟨gb241, 0, none⟩ = some (.int .i64 t235) := (blk_cell BK241.out 0).trans rfl);(have hcz31_1 : wc.cell? ⟨gb241, 1, none⟩ = some (.int .i64 t236) := (blk_cell BK241.out 1).trans rfl);(have hcz31_2 : wc.cell? ⟨gb241, 2, none⟩ = some (.int .i64 t237) := (blk_cell BK241.out 2).trans rfl);(have hcz31_3 : wc.cell? ⟨gb241, 3, none⟩ = some (.slice Ao18 t238.length co18) := (blk_cell BK241.out 3).trans rfl);(have hfz31_0 := blk_frozen BK241.out 0);(have hfz31_1 := blk_frozen BK241.out 1);(have hfz31_2 := blk_frozen BK241.out 2);(have hfz31_3 := blk_frozen BK241.out 3)
         go_upto_block 0 with (first | ((with_reducible refine gate_dst (N := 76) rfl ?_); (try (refine gate_guard (by rfl) ?_; dsimp only)); refine Kd.R_make Kd.bool _ 4 rfl (N := 76) rfl 35 _ _ rfl ji27 rfl rfl Try.underlying35 (.bool false) 1 info4 rfl (by decide) (by omega) false (ok := fun _ => True) (okp := fun _ => True) rfl (fun _ hk => hk) trivial (of_decide_eq_true (by first | (with_reducible assumption) | assumption)) (Nat.le_trans (Nat.mul_le_mul_right _ (of_decide_eq_true (by first | (with_reducible assumption) | assumption) : ji27.toNat ≤ 281474976710656)) (by omega)) (Below.refl _ _) (Nat.le_refl _) ?_; intro v250 w32 ho33 hb hg_ hnew_; clear hg_ hnew_; (first | rw [← Ny249.out] at ho33 | (simp only [Int.reduceToNat] at ho33; rw [← Ny249.out] at ho33)); have n0_ := Aside0.mk (Kd.R_below (by (with_reducible repeat first | apply Kd.R_alloc | apply Kd.R_drewN | apply Kd.R_drew); exact HO_13.out) hb); have n1_ := Aside0.mk (Kd.R_below (by (with_reducible repeat first | apply Kd.R_alloc | apply Kd.R_drewN | apply Kd.R_drew); exact HO_14.out) hb); have n2_ := Aside0.mk (Kd.R_below (by (with_reducible repeat first | apply Kd.R_alloc | apply Kd.R_drewN | apply Kd.R_drew); exact HO_242003.out) hb); have n3_ := Aside0.mk (Kd.R_lower ho33 (below_size (by repeat (first | (with_reducible first | exact HB.out | apply below_alloc | apply pw_below_drewN | apply below_drew1 | refine below_set ?_ GE241.out) | exact HB.out)))); have n4_ := Aside0.mk (blk_below (g := gb241) (o := .cells #[.int .i64 t235, .int .i64 t236, .int .i64 t237, .slice Ao18 t238.length co18] 27 (0, 0)) (by (with_reducible repeat first | refine blk_drewN ?_ _ | refine blk_drew ?_ | refine blk_alloc ?_ _); exact BK241.out) hb); have n5_ := Aside0.mk (below_step (by repeat (first | (with_reducible first | exact HB.out | apply below_alloc | apply pw_below_drewN | apply below_drew1 | refine below_set ?_ GE241.out) | exact HB.out)) hb); clear HO_13; clear HO_14; clear HO_242003; clear BK241; clear HB; have HO_13 := n0_; have HO_14 := n1_; have HO_242003 := n2_; have HO251 := n3_; have BK241 := n4_; have HB := n5_; clear n0_ n1_ n2_ n3_ n4_ n5_; clear hb ho33; have hcz34_0 : w32.cell? ⟨gb241, 0, none⟩ = some (.int .i64 t235) := (blk_cell BK241.out 0).trans rfl; have hcz34_1 : w32.cell? ⟨gb241, 1, none⟩ = some (.int .i64 t236) := (blk_cell BK241.out 1).trans rfl; have hcz34_2 : w32.cell? ⟨gb241, 2, none⟩ = some (.int .i64 t237) := (blk_cell BK241.out 2).trans rfl; have hcz34_3 : w32.cell? ⟨gb241, 3, none⟩ = some (.slice Ao18 t238.length co18) := (blk_cell BK241.out 3).trans rfl; have hfz34_0 := blk_frozen BK241.out 0; have hfz34_1 := blk_frozen BK241.out 1; have hfz34_2 := blk_frozen BK241.out 2; have hfz34_3 := blk_frozen BK241.out 3))
         (try simp only [Act.put, List.setIfInBounds_toArray, List.set_cons_zero, List.set_cons_succ])
         go_cut [17, 18, 19] (fun v17 v18 v19 wc => ∃ (kq : Nat) (x17_29 : Int) (x18_29 : Int) (x19_29 : List Int), v17 = .int .i64 x17_29 ∧ v18 = .int .i64 x18_29 ∧ Aside0 (racewaylaw6_ResidualPushes.j4 kq t242 x17_29 x18_29 x19_29 t235 t236 t237 t238 = some r) ∧ Aside0 (kq ≤ kj13) ∧ Aside0 (Kd.R (Kd.int .i64) 2 wc w.heap.size (fun _ => True) (.slice Ao21 t242.length co21) t242) ∧ Aside0 (Kd.R (Kd.int .i64) 3 wc w.heap.size (fun _ => True) v19 x19_29) ∧ Aside0 (Kd.R k49 49 wc w.heap.size (fun _ => True) (.slice Ao18 t238.length co18) t238) ∧ Aside0 (wc.heap[gb241]? = some (.cells #[.int .i64 t235, .int .i64 t236, .int .i64 t237, (.slice Ao18 t238.length co18)] 27 (0, 0))) ∧ Aside0 (Below w.heap.size w wc))
         case first =>
          (have H := HC30.out);(clear HC30);(have H' := Aside0.mk H);(clear H)
          go_wp2
          go_loopg [17, 18, 19, 20] kj13 (fun kq v17 v18 v19 v20 w' => ∃ (x16_3 : List Bool) (x17_3 : Int) (x18_3 : Int) (x19_3 : List Int) (x20_3 : Int), v17 = .int .i64 x17_3 ∧ v18 = .int .i64 x18_3 ∧ v20 = .int .i64 x20_3 ∧ Aside0 (racewaylaw6_ResidualPushes.l0 kq l4 t242 t245 x16_3 x17_3 x18_3 x19_3 x20_3 t235 t236 t237 t238 = some r) ∧ Aside0 (kq ≤ kj13) ∧ Aside0 (Kd.R (Kd.int .i64) 2 w' w.heap.size (fun k_ => some k_ ≠ (v246 : Value).ownBlock) (.slice Ao21 t242.length co21) t242) ∧ Aside0 (Kd.R (Kd.int .i64) 2 w' w.heap.size (fun k_ => some k_ ≠ ((.slice Ao21 t242.length co21) : Value).ownBlock) v246 t245) ∧ Aside0 (Kd.R Kd.bool 4 w' w.heap.size (fun _ => True) v250 x16_3) ∧ Aside0 (Kd.R (Kd.int .i64) 3 w' w.heap.size (fun _ => True) v19 x19_3) ∧ Aside0 (Kd.R k49 49 w' w.heap.size (fun _ => True) (.slice Ao18 t238.length co18) t238) ∧ Aside0 (w'.heap[gb241]? = some (.cells #[.int .i64 t235, .int .i64 t236, .int .i64 t237, (.slice Ao18 t238.length co18)] 27 (0, 0))) ∧ Aside0 (Below w.heap.size w w'))
          case atStart => exact ⟨(y249), (t236), (1099511627776), (([] : List Int)), (0), (by first | rfl | (simp; done) | (simp [*]; done)), (by first | rfl | (simp; done) | (simp [*]; done)), (by first | rfl | (simp; done) | (simp [*]; done)), H', ⟨Nat.le_refl _⟩, ⟨by (with_reducible repeat first | apply Kd.R_alloc | apply Kd.R_drewN | apply Kd.R_drew); exact HO_13.out⟩, ⟨by (with_reducible repeat first | apply Kd.R_alloc | apply Kd.R_drewN | apply Kd.R_drew); exact HO_14.out⟩, ⟨by (with_reducible repeat first | apply Kd.R_alloc | apply Kd.R_drewN | apply Kd.R_drew); exact HO251.out⟩, ⟨by first | exact Kd.R_nil _ _ _ _ _ | exact Kd.N_nil _ _ _ _ _ | exact Kd.V_nil _ _ _ _ _ | exact Kd.Q_nil _ _ _ _ _ | exact Kd.S_nil _ _ _ _ _⟩, ⟨by (with_reducible repeat first | apply Kd.R_alloc | apply Kd.R_drewN | apply Kd.R_drew); exact HO_242003.out⟩, ⟨by (with_reducible repeat first | refine blk_drewN ?_ _ | refine blk_drew ?_ | refine blk_alloc ?_ _); exact BK241.out⟩, ⟨by repeat (first | (with_reducible first | exact HB.out | apply below_alloc | apply pw_below_drewN | apply below_drew1 | refine below_set ?_ GE241.out) | exact HB.out)⟩⟩
          case round =>
           clear H'
           try clear c1
           try clear c2
           try clear p2
           try clear c3
           try clear c4
           try clear p6
           try clear c8
           try clear c9
           try clear c10
           try clear c14
           try clear c15
           try clear c16
           try clear c18
           try clear c23
           try clear c23b0
           try clear c23b1
           try clear c26
           try clear c28
           try clear c28b0
           try clear c28b1
           try clear c29
           try clear c29b0
           try clear c29b1
           try clear hcz17_0
           try clear hcz17_1
           try clear hcz17_2
           try clear hcz17_3
           try clear hcz20_0
           try clear hcz20_1
           try clear hcz20_2
           try clear hcz20_3
           try clear hcz25_0
           try clear hcz25_1
           try clear hcz25_2
           try clear hcz25_3
           try clear hcz31_0
           try clear hcz31_1
           try clear hcz31_2
           try clear hcz31_3
           try clear hcz34_0
           try clear hcz34_1
           try clear hcz34_2
           try clear hcz34_3
           try clear hfz17_0
           try clear hfz17_1
           try clear hfz17_2
           try clear hfz17_3
           try clear hfz20_0
           try clear hfz20_1
           try clear hfz20_2
           try clear hfz20_3
           try clear hfz25_0
           try clear hfz25_1
           try clear hfz25_2
           try clear hfz25_3
           try clear hfz31_0
           try clear hfz31_1
           try clear hfz31_2
           try clear hfz31_3
           try clear hfz34_0
           try clear hfz34_1
           try clear hfz34_2
           try clear hfz34_3
           try clear p2
           try clear p6
           obtain ⟨x16_3, x17_3, x18_3, x19_3, x20_3, rfl, rfl, rfl, HA, HK3, HO_13, HO_14, HO_16, HO_19, HO_242003, BK241, HB⟩ := hrel
           cases gk with
           | zero => exact absurd HA.out (by simp [racewaylaw6_ResidualPushes.l0])
           | succ k3 =>
            (have H := HA.out);(clear HA);(simp only [racewaylaw6_ResidualPushes.l0] at H);(have HC35 := Aside0.mk H);(clear H)
            go_upto_region 14 with (fail)
            go_cut [88] (fun v88 wc => ∃ (kq : Nat) (x88_34 : Bool), v88 = .bool x88_34 ∧ Aside0 (racewaylaw6_ResidualPushes.j3 kq l4 t242 t245 x16_3 x17_3 x18_3 x19_3 x20_3 x88_34 t235 t236 t237 t238 = some r) ∧ Aside0 (kq ≤ k3) ∧ Aside0 (Kd.R (Kd.int .i64) 2 wc w.heap.size (fun k_ => some k_ ≠ (v246 : Value).ownBlock) (.slice Ao21 t242.length co21) t242) ∧ Aside0 (Kd.R (Kd.int .i64) 2 wc w.heap.size (fun k_ => some k_ ≠ ((.slice Ao21 t242.length co21) : Value).ownBlock) v246 t245) ∧ Aside0 (Kd.R Kd.bool 4 wc w.heap.size (fun _ => True) v250 x16_3) ∧ Aside0 (Kd.R (Kd.int .i64) 3 wc w.heap.size (fun _ => True) u19 x19_3) ∧ Aside0 (Kd.R k49 49 wc w.heap.size (fun _ => True) (.slice Ao18 t238.length co18) t238) ∧ Aside0 (wc.heap[gb241]? = some (.cells #[.int .i64 t235, .int .i64 t236, .int .i64 t237, (.slice Ao18 t238.length co18)] 27 (0, 0))) ∧ Aside0 (Below w.heap.size w wc))
            case first =>
             (have H := HC35.out);(clear HC35)
             by_cases c36 : x20_3 < (l4.length : Int)
             ·(rw [if_pos c36] at H);(have c36b0 : decide (x20_3 < (l4.length : Int)) = true := decide_eq_true c36);(clear c36);((first | rw [c36b0] | (simp only [i64_w, i32_w]; rw [c36b0]) | skip))
              as_aux_lemma =>
               (have H' := Aside0.mk H);(clear H);(have hcz37_0 : wr.cell? ⟨gb241, 0, none⟩ = some (.int .i64 t235) := (blk_cell BK241.out 0).trans rfl);(have hcz37_1 : wr.cell? ⟨gb241, 1, none⟩ = some (.int .i64 t236) := (blk_cell BK241.out 1).trans rfl);(have hcz37_2 : wr.cell? ⟨gb241, 2, none⟩ = some (.int .i64 t237) := (blk_cell BK241.out 2).trans rfl);(have hcz37_3 : wr.cell? ⟨gb241, 3, none⟩ = some (.slice Ao18 t238.length co18) := (blk_cell BK241.out 3).trans rfl);(have hfz37_0 := blk_frozen BK241.out 0);(have hfz37_1 := blk_frozen BK241.out 1);(have hfz37_2 := blk_frozen BK241.out 2);(have hfz37_3 := blk_frozen BK241.out 3)
               go_wp2
               go_meet
               case rel => exact ⟨_, ((x17_3 != t237)), (by first | rfl | (simp; done) | (simp [*]; done)), H', ⟨by have := HJ6.out; have := HJ13.out; have := HK3.out; first | omega | exact Nat.le_refl _⟩, ⟨by (with_reducible repeat first | apply Kd.R_alloc | apply Kd.R_drewN | apply Kd.R_drew); exact HO_13.out⟩, ⟨by (with_reducible repeat first | apply Kd.R_alloc | apply Kd.R_drewN | apply Kd.R_drew); exact HO_14.out⟩, ⟨by (with_reducible repeat first | apply Kd.R_alloc | apply Kd.R_drewN | apply Kd.R_drew); exact HO_16.out⟩, ⟨by (with_reducible repeat first | apply Kd.R_alloc | apply Kd.R_drewN | apply Kd.R_drew); exact HO_19.out⟩, ⟨by (with_reducible repeat first | apply Kd.R_alloc | apply Kd.R_drewN | apply Kd.R_drew); exact HO_242003.out⟩, ⟨by (with_reducible repeat first | refine blk_drewN ?_ _ | refine blk_drew ?_ | refine blk_alloc ?_ _); exact BK241.out⟩, ⟨by repeat (first | (with_reducible first | exact HB.out | apply below_alloc | apply pw_below_drewN | apply below_drew1 | refine below_set ?_ GE241.out) | exact HB.out)⟩⟩
             ·(rw [if_neg c36] at H);(have c36b0 : decide (x20_3 < (l4.length : Int)) = false := decide_eq_false c36);(clear c36);((first | rw [c36b0] | (simp only [i64_w, i32_w]; rw [c36b0]) | skip))
              as_aux_lemma =>
               (have H' := Aside0.mk H);(clear H)
               go_wp2
               go_meet
               case rel => exact ⟨_, (false), (by first | rfl | (simp; done) | (simp [*]; done)), H', ⟨by have := HJ6.out; have := HJ13.out; have := HK3.out; first | omega | exact Nat.le_refl _⟩, ⟨by (with_reducible repeat first | apply Kd.R_alloc | apply Kd.R_drewN | apply Kd.R_drew); exact HO_13.out⟩, ⟨by (with_reducible repeat first | apply Kd.R_alloc | apply Kd.R_drewN | apply Kd.R_drew); exact HO_14.out⟩, ⟨by (with_reducible repeat first | apply Kd.R_alloc | apply Kd.R_drewN | apply Kd.R_drew); exact HO_16.out⟩, ⟨by (with_reducible repeat first | apply Kd.R_alloc | apply Kd.R_drewN | apply Kd.R_drew); exact HO_19.out⟩, ⟨by (with_reducible repeat first | apply Kd.R_alloc | apply Kd.R_drewN | apply Kd.R_drew); exact HO_242003.out⟩, ⟨by (with_reducible repeat first | refine blk_drewN ?_ _ | refine blk_drew ?_ | refine blk_alloc ?_ _); exact BK241.out⟩, ⟨by repeat (first | (with_reducible first | exact HB.out | apply below_alloc | apply pw_below_drewN | apply below_drew1 | refine below_set ?_ GE241.out) | exact HB.out)⟩⟩
            case rest =>
             clear HC35
             try clear c1
             try clear c2
             try clear p2
             try clear c3
             try clear c4
             try clear p6
             try clear c8
             try clear c9
             try clear c10
             try clear c14
             try clear c15
             try clear c16
             try clear c18
             try clear c23
             try clear c23b0
             try clear c23b1
             try clear c26
             try clear c28
             try clear c28b0
             try clear c28b1
             try clear c29
             try clear c29b0
             try clear c29b1
             try clear c36
             try clear c36b0
             try clear hcz17_0
             try clear hcz17_1
             try clear hcz17_2
             try clear hcz17_3
             try clear hcz20_0
             try clear hcz20_1
             try clear hcz20_2
             try clear hcz20_3
             try clear hcz25_0
             try clear hcz25_1
             try clear hcz25_2
             try clear hcz25_3
             try clear hcz31_0
             try clear hcz31_1
             try clear hcz31_2
             try clear hcz31_3
             try clear hcz34_0
             try clear hcz34_1
             try clear hcz34_2
             try clear hcz34_3
             try clear hcz37_0
             try clear hcz37_1
             try clear hcz37_2
             try clear hcz37_3
             try clear hfz17_0
             try clear hfz17_1
             try clear hfz17_2
             try clear hfz17_3
             try clear hfz20_0
             try clear hfz20_1
             try clear hfz20_2
             try clear hfz20_3
             try clear hfz25_0
             try clear hfz25_1
             try clear hfz25_2
             try clear hfz25_3
             try clear hfz31_0
             try clear hfz31_1
             try clear hfz31_2
             try clear hfz31_3
             try clear hfz34_0
             try clear hfz34_1
             try clear hfz34_2
             try clear hfz34_3
             try clear hfz37_0
             try clear hfz37_1
             try clear hfz37_2
             try clear hfz37_3
             try clear p2
             try clear p6
             obtain ⟨kq, x88_34, rfl, HA, HJ34, HO_13, HO_14, HO_16, HO_19, HO_242003, BK241, HB⟩ := hcut
             cases kq with
             | zero => exact absurd HA.out (by simp [racewaylaw6_ResidualPushes.j3])
             | succ kj34 =>
              (have H := HA.out);(clear HA);(simp only [racewaylaw6_ResidualPushes.j3] at H)
              by_cases c38 : x88_34 = true
              ·(subst c38);(have H1 : (if 0 ≤ x17_3 then (if x17_3 < (x16_3.length : Int) then ((some (x16_3.set (x17_3 : Int).toNat true : List Bool)).bind fun y252 => ((residual_From.f kj34 t235 t236 t237 t238 x17_3).bind fun t253 => (if (t253.length : Int) = 0 then (racewaylaw6_ResidualPushes.j4 kj34 t242 x17_3 x18_3 x19_3 t235 t236 t237 t238) else (if 0 ≤ x20_3 then (if x20_3 < (l4.length : Int) then ((racewaylaw6_pick.f (rd l4 x20_3) (t253.length : Int)).bind fun t257 => (if 0 ≤ t257 then (if t257 < (t253.length : Int) then ((residual_Ends.f kj34 t235 t236 t237 t238 (rd t253 t257)).bind fun bt259 => (if 0 ≤ bt259.2 then (if bt259.2 < (x16_3.length : Int) then (if rdOf false y252 bt259.2 = true then (racewaylaw6_ResidualPushes.l0 kj34 l4 t242 t245 y252 x17_3 x18_3 x19_3 (wrap64 (x20_3 + 1)) t235 t236 t237 t238) else (if 0 ≤ (rd t253 t257) then (if (rd t253 t257) < (t245.length : Int) then (if (rd t245 (rd t253 t257)) = 0 then (racewaylaw6_ResidualPushes.l0 kj34 l4 t242 t245 y252 x17_3 x18_3 x19_3 (wrap64 (x20_3 + 1)) t235 t236 t237 t238) else (if x19_3.length < 17592186044416 then (racewaylaw6_ResidualPushes.l0 kj34 l4 t242 t245 y252 bt259.2 (mn x18_3 (rd t245 (rd t253 t257))) (x19_3 ++ [rd t253 t257]) (wrap64 (x20_3 + 1)) t235 t236 t237 t238) else (none))) else (none)) else (none))) else (none)) else (none))) else (none)) else (none))) else (none)) else (none))))) else (none)) else (none)) = some r := by rw [if_pos rfl] at H; exact H);(clear H);(have H := H1);(clear H1)
               by_cases c39 : 0 ≤ x17_3
               ·(rw [if_pos c39] at H);(have c39b0 : decide (0 ≤ x17_3) = true := decide_eq_true c39);(clear c39)
                by_cases c40 : x17_3 < (x16_3.length : Int)
                ·(rw [if_pos c40] at H);(have c40b0 : decide (x17_3 < (x16_3.length : Int)) = true := decide_eq_true c40);(clear c40);(obtain ⟨y252, hy252⟩ : ∃ y_ : List Bool, y_ = (x16_3.set (x17_3 : Int).toNat true) := ⟨_, rfl⟩);(replace H : ((residual_From.f kj34 t235 t236 t237 t238 x17_3).bind fun t253 => (if (t253.length : Int) = 0 then (racewaylaw6_ResidualPushes.j4 kj34 t242 x17_3 x18_3 x19_3 t235 t236 t237 t238) else (if 0 ≤ x20_3 then (if x20_3 < (l4.length : Int) then ((racewaylaw6_pick.f (rd l4 x20_3) (t253.length : Int)).bind fun t257 => (if 0 ≤ t257 then (if t257 < (t253.length : Int) then ((residual_Ends.f kj34 t235 t236 t237 t238 (rd t253 t257)).bind fun bt259 => (if 0 ≤ bt259.2 then (if bt259.2 < (x16_3.length : Int) then (if rdOf false y252 bt259.2 = true then (racewaylaw6_ResidualPushes.l0 kj34 l4 t242 t245 y252 x17_3 x18_3 x19_3 (wrap64 (x20_3 + 1)) t235 t236 t237 t238) else (if 0 ≤ (rd t253 t257) then (if (rd t253 t257) < (t245.length : Int) then (if (rd t245 (rd t253 t257)) = 0 then (racewaylaw6_ResidualPushes.l0 kj34 l4 t242 t245 y252 x17_3 x18_3 x19_3 (wrap64 (x20_3 + 1)) t235 t236 t237 t238) else (if x19_3.length < 17592186044416 then (racewaylaw6_ResidualPushes.l0 kj34 l4 t242 t245 y252 bt259.2 (mn x18_3 (rd t245 (rd t253 t257))) (x19_3 ++ [rd t253 t257]) (wrap64 (x20_3 + 1)) t235 t236 t237 t238) else (none))) else (none)) else (none))) else (none)) else (none))) else (none)) else (none))) else (none)) else (none)))) = some r := by first | (rw [hy252]; with_reducible exact H) | (have H2_ := (Option.bind_some _ _).symm.trans H; rw [hy252]; with_reducible exact H2_) | (have H2_ := (Option.bind_some _ _).symm.trans H; with_reducible exact H2_) | with_reducible exact H | (rw [hy252]; exact H) | exact H);(have Ny252 := Aside0.mk hy252);(clear hy252);(replace H := Option.bind_eq_some_iff.mp H);(obtain ⟨t253, A420, H⟩ := H);(replace H : (if (t253.length : Int) = 0 then (racewaylaw6_ResidualPushes.j4 kj34 t242 x17_3 x18_3 x19_3 t235 t236 t237 t238) else (if 0 ≤ x20_3 then (if x20_3 < (l4.length : Int) then ((racewaylaw6_pick.f (rd l4 x20_3) (t253.length : Int)).bind fun t257 => (if 0 ≤ t257 then (if t257 < (t253.length : Int) then ((residual_Ends.f kj34 t235 t236 t237 t238 (rd t253 t257)).bind fun bt259 => (if 0 ≤ bt259.2 then (if bt259.2 < (x16_3.length : Int) then (if rdOf false y252 bt259.2 = true then (racewaylaw6_ResidualPushes.l0 kj34 l4 t242 t245 y252 x17_3 x18_3 x19_3 (wrap64 (x20_3 + 1)) t235 t236 t237 t238) else (if 0 ≤ (rd t253 t257) then (if (rd t253 t257) < (t245.length : Int) then (if (rd t245 (rd t253 t257)) = 0 then (racewaylaw6_ResidualPushes.l0 kj34 l4 t242 t245 y252 x17_3 x18_3 x19_3 (wrap64 (x20_3 + 1)) t235 t236 t237 t238) else (if x19_3.length < 17592186044416 then (racewaylaw6_ResidualPushes.l0 kj34 l4 t242 t245 y252 bt259.2 (mn x18_3 (rd t245 (rd t253 t257))) (x19_3 ++ [rd t253 t257]) (wrap64 (x20_3 + 1)) t235 t236 t237 t238) else (none))) else (none)) else (none))) else (none)) else (none))) else (none)) else (none))) else (none)) else (none))) = some r := H);(have A42 := Aside0.mk A420);(clear A420)
                 by_cases c43 : (t253.length : Int) = 0
                 ·(rw [if_pos c43] at H);(have c43b0 : ((t253.length : Int) == 0) = true := beq_iff_eq.mpr c43);(have c43b1 : ((t253.length : Int) != 0) = false := bne_eq_false_iff_eq.mpr c43);(clear c43)
                  as_aux_lemma =>
                   (have H' := Aside0.mk H);(clear H);(have p41 : 0 ≤ (x17_3 : Int) := of_decide_eq_true (by first | (with_reducible assumption) | assumption));(have q41 : (x17_3 : Int) < ((x16_3.length : Int) : Int) := of_decide_eq_true (by first | (with_reducible assumption) | assumption));(obtain ⟨go41, co41, eo41, gb41, gl41, cl41, HG41⟩ := Kd.R_form HO_16.out (by omega));((first | cases eo41 | (injection eo41 with ea_ en_ ec_; (first | subst ea_ | (injection ea_ with ea_; subst ea_)); subst ec_; clear en_)));(have GB41 := Aside0.mk gb41);(have GG41 := Aside0.mk HG41);(clear gb41 gl41 HG41);(obtain ⟨hx41_0, hf41_0⟩ := Kd.R_celln false HO_16.out (x17_3 : Int) p41 q41);(replace p41 := eq_true p41);(replace q41 := eq_true q41);(have HP44 := Kd.R_putg HO_16.out (x17_3 : Int) true)
                   go_wp2_with (first | ((with_reducible refine gate_store (t := 4) (p := 93) rfl ?_); refine store_event (t := 4) (p := 93) (v := ?vo_w45) (w1 := (wc.setCell ⟨go41, (x17_3 : Int).toNat, none⟩ (.bool true))) ?hg ?ho ?hn ?hr ?_; (case ho => rfl); (case hg => rfl); (case hn => rfl); (case hr => first | (go_simp; done) | (go_simp; rfl)); intro w45 hw; have hg : wc.grownBy w45 (some go41) := (by rw [hw]; exact HP44.2); have hp_ : Kd.R Kd.bool 4 w45 w.heap.size (fun _ => True) (.slice (some ⟨go41, 0, none⟩) x16_3.length co41) y252 := (by rw [hw, Ny252.out]; exact HP44.1); clear HP44; have n0_ := Aside0.mk (Kd.R_over' (v := (.slice (some ⟨go41, 0, none⟩) x16_3.length co41)) (by (with_reducible repeat first | apply Kd.R_alloc | apply Kd.R_drewN | apply Kd.R_drew); exact HO_13.out) (Kd.R_typed HO_16.out) (by decide) hg); have n1_ := Aside0.mk (Kd.R_over' (v := (.slice (some ⟨go41, 0, none⟩) x16_3.length co41)) (by (with_reducible repeat first | apply Kd.R_alloc | apply Kd.R_drewN | apply Kd.R_drew); exact HO_14.out) (Kd.R_typed HO_16.out) (by decide) hg); have n2_ := Aside0.mk (hp_); have n3_ := Aside0.mk (Kd.R_over' (v := (.slice (some ⟨go41, 0, none⟩) x16_3.length co41)) (by (with_reducible repeat first | apply Kd.R_alloc | apply Kd.R_drewN | apply Kd.R_drew); exact HO_19.out) (Kd.R_typed HO_16.out) (by decide) hg); have n4_ := Aside0.mk (Kd.R_over' (v := (.slice (some ⟨go41, 0, none⟩) x16_3.length co41)) (by (with_reducible repeat first | apply Kd.R_alloc | apply Kd.R_drewN | apply Kd.R_drew); exact HO_242003.out) (Kd.R_typed HO_16.out) (by decide) hg); have n5_ := Aside0.mk (blk_grown (g := gb241) (o := .cells #[.int .i64 t235, .int .i64 t236, .int .i64 t237, .slice Ao18 t238.length co18] 27 (0, 0)) (by (with_reducible repeat first | refine blk_drewN ?_ _ | refine blk_drew ?_ | refine blk_alloc ?_ _); exact BK241.out) hg (Kd.R_ne HO_16.out BK241.out (by decide))); have n6_ := Aside0.mk ((by rw [hw]; exact below_set (HB.out) GB41.out : Below w.heap.size w w45)); clear HO_13; clear HO_14; clear HO_16; clear HO_19; clear HO_242003; clear BK241; clear HB; have HO_13 := n0_; have HO_14 := n1_; have HO_16 := n2_; have HO_19 := n3_; have HO_242003 := n4_; have BK241 := n5_; have HB := n6_; clear n0_ n1_ n2_ n3_ n4_ n5_ n6_; clear hg hw hp_; have hcz46_0 : w45.cell? ⟨gb241, 0, none⟩ = some (.int .i64 t235) := (blk_cell BK241.out 0).trans rfl; have hcz46_1 : w45.cell? ⟨gb241, 1, none⟩ = some (.int .i64 t236) := (blk_cell BK241.out 1).trans rfl; have hcz46_2 : w45.cell? ⟨gb241, 2, none⟩ = some (.int .i64 t237) := (blk_cell BK241.out 2).trans rfl; have hcz46_3 : w45.cell? ⟨gb241, 3, none⟩ = some (.slice Ao18 t238.length co18) := (blk_cell BK241.out 3).trans rfl; have hfz46_0 := blk_frozen BK241.out 0; have hfz46_1 := blk_frozen BK241.out 1; have hfz46_2 := blk_frozen BK241.out 2; have hfz46_3 := blk_frozen BK241.out 3) | ((with_reducible refine gate_callee (f := 20) rfl ?_); refine goesL_ (some 96) rfl rfl Try.func20 (by kernel_rfl) rfl #[.agg #[.int .i64 t235, .int .i64 t236, .int .i64 t237, .slice Ao18 t238.length co18], .int .i64 x17_3] rfl (by (try simp only [List.map_toArray, List.map_cons, List.map_nil]); first | done | rfl | (simp only [List.length_drop, List.length_take]; rfl)) ?_; (with_reducible refine (residual_From.calls kj34 t235 t236 t237 _ _ t238 x17_3 t253 _ ?side1 ?side2 A42.out).mono ?_); (case side1 => repeat (first | exact (Kd.R_reads' HO_242003.out).2.2 | (with_reducible refine Kd.C_alloc ?_ _) | (with_reducible refine Kd.C_drewN ?_ _) | (with_reducible refine Kd.C_drew ?_))); (case side2 => exact (Kd.R_reads' HO_242003.out).2.1); rintro e w47 ⟨v254, rfl, ho0, hb⟩; refine ⟨_, rfl, ?_⟩; have n0_ := Aside0.mk (Kd.R_below (by (with_reducible repeat first | apply Kd.R_alloc | apply Kd.R_drewN | apply Kd.R_drew); exact HO_13.out) hb); have n1_ := Aside0.mk (Kd.R_below (by (with_reducible repeat first | apply Kd.R_alloc | apply Kd.R_drewN | apply Kd.R_drew); exact HO_14.out) hb); have n2_ := Aside0.mk (Kd.R_below (by (with_reducible repeat first | apply Kd.R_alloc | apply Kd.R_drewN | apply Kd.R_drew); exact HO_16.out) hb); have n3_ := Aside0.mk (Kd.R_elder' (by (with_reducible repeat first | apply Kd.R_alloc | apply Kd.R_drewN | apply Kd.R_drew); exact HO_19.out) (Kd.R_base ho0) hb); have n4_ := Aside0.mk (Kd.R_below (by (with_reducible repeat first | apply Kd.R_alloc | apply Kd.R_drewN | apply Kd.R_drew); exact HO_242003.out) hb); have n5_ := Aside0.mk (Kd.R_lower (Kd.R_new' ho0 (Kd.R_lt (by (with_reducible repeat first | apply Kd.R_alloc | apply Kd.R_drewN | apply Kd.R_drew); exact HO_19.out))) (below_size (by repeat (first | (with_reducible first | exact HB.out | apply below_alloc | apply pw_below_drewN | apply below_drew1 | refine below_set ?_ GE241.out) | exact HB.out)))); have n6_ := Aside0.mk (blk_below (g := gb241) (o := .cells #[.int .i64 t235, .int .i64 t236, .int .i64 t237, .slice Ao18 t238.length co18] 27 (0, 0)) (by (with_reducible repeat first | refine blk_drewN ?_ _ | refine blk_drew ?_ | refine blk_alloc ?_ _); exact BK241.out) hb); have n7_ := Aside0.mk (below_step (by repeat (first | (with_reducible first | exact HB.out | apply below_alloc | apply pw_below_drewN | apply below_drew1 | refine below_set ?_ GE241.out) | exact HB.out)) hb); clear HO_13; clear HO_14; clear HO_16; clear HO_19; clear HO_242003; clear BK241; clear HB; have HO_13 := n0_; have HO_14 := n1_; have HO_16 := n2_; have HO_19 := n3_; have HO_242003 := n4_; have HO255 := n5_; have BK241 := n6_; have HB := n7_; clear n0_ n1_ n2_ n3_ n4_ n5_ n6_ n7_; (try clear hb); (try clear hb2); (try clear hk); (try clear hi); (try clear ho0); obtain ⟨Ao48, co48, eo48⟩ := Kd.R_slice HO255.out; subst eo48))
                   go_meet
                   case rel => exact ⟨_, (x17_3), (x18_3), (x19_3), (by first | rfl | (simp; done) | (simp [*]; done)), (by first | rfl | (simp; done) | (simp [*]; done)), H', ⟨by have := HJ6.out; have := HJ13.out; have := HK3.out; have := HJ34.out; first | omega | exact Nat.le_refl _⟩, ⟨by (with_reducible repeat first | apply Kd.R_alloc | apply Kd.R_drewN | apply Kd.R_drew); exact Kd.R_mono HO_13.out (fun _ hk => trivial)⟩, ⟨by (with_reducible repeat first | apply Kd.R_alloc | apply Kd.R_drewN | apply Kd.R_drew); exact Kd.R_mono HO_19.out (fun _ hk => trivial)⟩, ⟨by (with_reducible repeat first | apply Kd.R_alloc | apply Kd.R_drewN | apply Kd.R_drew); exact HO_242003.out⟩, ⟨by (with_reducible repeat first | refine blk_drewN ?_ _ | refine blk_drew ?_ | refine blk_alloc ?_ _); exact BK241.out⟩, ⟨by repeat (first | (with_reducible first | exact HB.out | apply below_alloc | apply pw_below_drewN | apply below_drew1 | refine below_set ?_ GE241.out) | exact HB.out)⟩⟩
                 ·(rw [if_neg c43] at H);(have c43b0 : ((t253.length : Int) == 0) = false := beq_eq_false_iff_ne.mpr c43);(have c43b1 : ((t253.length : Int) != 0) = true := bne_iff_ne.mpr c43);(have c43b2 : ¬ (t253 = []) := fun h_ => c43 (by rw [h_]; rfl))
                  by_cases c49 : 0 ≤ x20_3
                  ·(rw [if_pos c49] at H);(have c49b0 : decide (0 ≤ x20_3) = true := decide_eq_true c49);(clear c49)
                   by_cases c50 : x20_3 < (l4.length : Int)
                   ·(rw [if_pos c50] at H);(have c50b0 : decide (x20_3 < (l4.length : Int)) = true := decide_eq_true c50);(clear c50);(replace H := Option.bind_eq_some_iff.mp H);(obtain ⟨t257, A510, H⟩ := H);(replace H : (if 0 ≤ t257 then (if t257 < (t253.length : Int) then ((residual_Ends.f kj34 t235 t236 t237 t238 (rd t253 t257)).bind fun bt259 => (if 0 ≤ bt259.2 then (if bt259.2 < (x16_3.length : Int) then (if rdOf false y252 bt259.2 = true then (racewaylaw6_ResidualPushes.l0 kj34 l4 t242 t245 y252 x17_3 x18_3 x19_3 (wrap64 (x20_3 + 1)) t235 t236 t237 t238) else (if 0 ≤ (rd t253 t257) then (if (rd t253 t257) < (t245.length : Int) then (if (rd t245 (rd t253 t257)) = 0 then (racewaylaw6_ResidualPushes.l0 kj34 l4 t242 t245 y252 x17_3 x18_3 x19_3 (wrap64 (x20_3 + 1)) t235 t236 t237 t238) else (if x19_3.length < 17592186044416 then (racewaylaw6_ResidualPushes.l0 kj34 l4 t242 t245 y252 bt259.2 (mn x18_3 (rd t245 (rd t253 t257))) (x19_3 ++ [rd t253 t257]) (wrap64 (x20_3 + 1)) t235 t236 t237 t238) else (none))) else (none)) else (none))) else (none)) else (none))) else (none)) else (none)) = some r := H);(have A51 := Aside0.mk A510);(clear A510)
                    by_cases c52 : 0 ≤ t257
                    ·(rw [if_pos c52] at H);(have c52b0 : decide (0 ≤ t257) = true := decide_eq_true c52);(clear c52)
                     by_cases c53 : t257 < (t253.length : Int)
                     ·(rw [if_pos c53] at H);(have c53b0 : decide (t257 < (t253.length : Int)) = true := decide_eq_true c53);(clear c53);(replace H := Option.bind_eq_some_iff.mp H);(obtain ⟨⟨t259, t260⟩, A540, H⟩ := H);(replace H : (if 0 ≤ t260 then (if t260 < (x16_3.length : Int) then (if rdOf false y252 t260 = true then (racewaylaw6_ResidualPushes.l0 kj34 l4 t242 t245 y252 x17_3 x18_3 x19_3 (wrap64 (x20_3 + 1)) t235 t236 t237 t238) else (if 0 ≤ (rd t253 t257) then (if (rd t253 t257) < (t245.length : Int) then (if (rd t245 (rd t253 t257)) = 0 then (racewaylaw6_ResidualPushes.l0 kj34 l4 t242 t245 y252 x17_3 x18_3 x19_3 (wrap64 (x20_3 + 1)) t235 t236 t237 t238) else (if x19_3.length < 17592186044416 then (racewaylaw6_ResidualPushes.l0 kj34 l4 t242 t245 y252 t260 (mn x18_3 (rd t245 (rd t253 t257))) (x19_3 ++ [rd t253 t257]) (wrap64 (x20_3 + 1)) t235 t236 t237 t238) else (none))) else (none)) else (none))) else (none)) else (none)) = some r := H);(have A54 := Aside0.mk A540);(clear A540)
                      by_cases c55 : 0 ≤ t260
                      ·(rw [if_pos c55] at H);(have c55b0 : decide (0 ≤ t260) = true := decide_eq_true c55);(clear c55)
                       by_cases c56 : t260 < (x16_3.length : Int)
                       ·(rw [if_pos c56] at H);(have c56b0 : decide (t260 < (x16_3.length : Int)) = true := decide_eq_true c56);(clear c56);(obtain ⟨bq57, hbq57⟩ : ∃ b_ : Bool, b_ = (rdOf false y252 t260) := ⟨_, rfl⟩);(replace H : (if bq57 = true then (racewaylaw6_ResidualPushes.l0 kj34 l4 t242 t245 y252 x17_3 x18_3 x19_3 (wrap64 (x20_3 + 1)) t235 t236 t237 t238) else (if 0 ≤ (rd t253 t257) then (if (rd t253 t257) < (t245.length : Int) then (if (rd t245 (rd t253 t257)) = 0 then (racewaylaw6_ResidualPushes.l0 kj34 l4 t242 t245 y252 x17_3 x18_3 x19_3 (wrap64 (x20_3 + 1)) t235 t236 t237 t238) else (if x19_3.length < 17592186044416 then (racewaylaw6_ResidualPushes.l0 kj34 l4 t242 t245 y252 t260 (mn x18_3 (rd t245 (rd t253 t257))) (x19_3 ++ [rd t253 t257]) (wrap64 (x20_3 + 1)) t235 t236 t237 t238) else (none))) else (none)) else (none))) = some r := by rw [← hbq57] at H; exact H);(have Nbq57 := Aside0.mk hbq57);(clear hbq57)
                        by_cases c58 : bq57 = true
                        ·(subst c58);(have H1 : (racewaylaw6_ResidualPushes.l0 kj34 l4 t242 t245 y252 x17_3 x18_3 x19_3 (wrap64 (x20_3 + 1)) t235 t236 t237 t238) = some r := by rw [if_pos rfl] at H; exact H);(clear H);(have H := H1);(clear H1)
                         as_aux_lemma =>
                          (have H' := Aside0.mk H);(clear H);(have p41 : 0 ≤ (x17_3 : Int) := of_decide_eq_true (by first | (with_reducible assumption) | assumption));(have q41 : (x17_3 : Int) < ((x16_3.length : Int) : Int) := of_decide_eq_true (by first | (with_reducible assumption) | assumption));(obtain ⟨go41, co41, eo41, gb41, gl41, cl41, HG41⟩ := Kd.R_form HO_16.out (by omega));((first | cases eo41 | (injection eo41 with ea_ en_ ec_; (first | subst ea_ | (injection ea_ with ea_; subst ea_)); subst ec_; clear en_)));(have GB41 := Aside0.mk gb41);(have GG41 := Aside0.mk HG41);(clear gb41 gl41 HG41);(obtain ⟨hx41_0, hf41_0⟩ := Kd.R_celln false HO_16.out (x17_3 : Int) p41 q41);(replace p41 := eq_true p41);(replace q41 := eq_true q41);(have HP59 := Kd.R_putg HO_16.out (x17_3 : Int) true)
                          go_wp2_with (first | ((with_reducible refine gate_store (t := 4) (p := 93) rfl ?_); refine store_event (t := 4) (p := 93) (v := ?vo_w60) (w1 := (wc.setCell ⟨go41, (x17_3 : Int).toNat, none⟩ (.bool true))) ?hg ?ho ?hn ?hr ?_; (case ho => rfl); (case hg => rfl); (case hn => rfl); (case hr => first | (go_simp; done) | (go_simp; rfl)); intro w60 hw; have hg : wc.grownBy w60 (some go41) := (by rw [hw]; exact HP59.2); have hp_ : Kd.R Kd.bool 4 w60 w.heap.size (fun _ => True) (.slice (some ⟨go41, 0, none⟩) x16_3.length co41) y252 := (by rw [hw, Ny252.out]; exact HP59.1); clear HP59; have n0_ := Aside0.mk (Kd.R_over' (v := (.slice (some ⟨go41, 0, none⟩) x16_3.length co41)) (by (with_reducible repeat first | apply Kd.R_alloc | apply Kd.R_drewN | apply Kd.R_drew); exact HO_13.out) (Kd.R_typed HO_16.out) (by decide) hg); have n1_ := Aside0.mk (Kd.R_over' (v := (.slice (some ⟨go41, 0, none⟩) x16_3.length co41)) (by (with_reducible repeat first | apply Kd.R_alloc | apply Kd.R_drewN | apply Kd.R_drew); exact HO_14.out) (Kd.R_typed HO_16.out) (by decide) hg); have n2_ := Aside0.mk (hp_); have n3_ := Aside0.mk (Kd.R_over' (v := (.slice (some ⟨go41, 0, none⟩) x16_3.length co41)) (by (with_reducible repeat first | apply Kd.R_alloc | apply Kd.R_drewN | apply Kd.R_drew); exact HO_19.out) (Kd.R_typed HO_16.out) (by decide) hg); have n4_ := Aside0.mk (Kd.R_over' (v := (.slice (some ⟨go41, 0, none⟩) x16_3.length co41)) (by (with_reducible repeat first | apply Kd.R_alloc | apply Kd.R_drewN | apply Kd.R_drew); exact HO_242003.out) (Kd.R_typed HO_16.out) (by decide) hg); have n5_ := Aside0.mk (blk_grown (g := gb241) (o := .cells #[.int .i64 t235, .int .i64 t236, .int .i64 t237, .slice Ao18 t238.length co18] 27 (0, 0)) (by (with_reducible repeat first | refine blk_drewN ?_ _ | refine blk_drew ?_ | refine blk_alloc ?_ _); exact BK241.out) hg (Kd.R_ne HO_16.out BK241.out (by decide))); have n6_ := Aside0.mk ((by rw [hw]; exact below_set (HB.out) GB41.out : Below w.heap.size w w60)); clear HO_13; clear HO_14; clear HO_16; clear HO_19; clear HO_242003; clear BK241; clear HB; have HO_13 := n0_; have HO_14 := n1_; have HO_16 := n2_; have HO_19 := n3_; have HO_242003 := n4_; have BK241 := n5_; have HB := n6_; clear n0_ n1_ n2_ n3_ n4_ n5_ n6_; clear hg hw hp_; have hcz61_0 : w60.cell? ⟨gb241, 0, none⟩ = some (.int .i64 t235) := (blk_cell BK241.out 0).trans rfl; have hcz61_1 : w60.cell? ⟨gb241, 1, none⟩ = some (.int .i64 t236) := (blk_cell BK241.out 1).trans rfl; have hcz61_2 : w60.cell? ⟨gb241, 2, none⟩ = some (.int .i64 t237) := (blk_cell BK241.out 2).trans rfl; have hcz61_3 : w60.cell? ⟨gb241, 3, none⟩ = some (.slice Ao18 t238.length co18) := (blk_cell BK241.out 3).trans rfl; have hfz61_0 := blk_frozen BK241.out 0; have hfz61_1 := blk_frozen BK241.out 1; have hfz61_2 := blk_frozen BK241.out 2; have hfz61_3 := blk_frozen BK241.out 3) | ((with_reducible refine gate_callee (f := 20) rfl ?_); refine goesL_ (some 96) rfl rfl Try.func20 (by kernel_rfl) rfl #[.agg #[.int .i64 t235, .int .i64 t236, .int .i64 t237, .slice Ao18 t238.length co18], .int .i64 x17_3] rfl (by (try simp only [List.map_toArray, List.map_cons, List.map_nil]); first | done | rfl | (simp only [List.length_drop, List.length_take]; rfl)) ?_; (with_reducible refine (residual_From.calls kj34 t235 t236 t237 _ _ t238 x17_3 t253 _ ?side1 ?side2 A42.out).mono ?_); (case side1 => repeat (first | exact (Kd.R_reads' HO_242003.out).2.2 | (with_reducible refine Kd.C_alloc ?_ _) | (with_reducible refine Kd.C_drewN ?_ _) | (with_reducible refine Kd.C_drew ?_))); (case side2 => exact (Kd.R_reads' HO_242003.out).2.1); rintro e w62 ⟨v254, rfl, ho0, hb⟩; refine ⟨_, rfl, ?_⟩; have n0_ := Aside0.mk (Kd.R_below (by (with_reducible repeat first | apply Kd.R_alloc | apply Kd.R_drewN | apply Kd.R_drew); exact HO_13.out) hb); have n1_ := Aside0.mk (Kd.R_below (by (with_reducible repeat first | apply Kd.R_alloc | apply Kd.R_drewN | apply Kd.R_drew); exact HO_14.out) hb); have n2_ := Aside0.mk (Kd.R_below (by (with_reducible repeat first | apply Kd.R_alloc | apply Kd.R_drewN | apply Kd.R_drew); exact HO_16.out) hb); have n3_ := Aside0.mk (Kd.R_elder' (by (with_reducible repeat first | apply Kd.R_alloc | apply Kd.R_drewN | apply Kd.R_drew); exact HO_19.out) (Kd.R_base ho0) hb); have n4_ := Aside0.mk (Kd.R_below (by (with_reducible repeat first | apply Kd.R_alloc | apply Kd.R_drewN | apply Kd.R_drew); exact HO_242003.out) hb); have n5_ := Aside0.mk (Kd.R_lower (Kd.R_new' ho0 (Kd.R_lt (by (with_reducible repeat first | apply Kd.R_alloc | apply Kd.R_drewN | apply Kd.R_drew); exact HO_19.out))) (below_size (by repeat (first | (with_reducible first | exact HB.out | apply below_alloc | apply pw_below_drewN | apply below_drew1 | refine below_set ?_ GE241.out) | exact HB.out)))); have n6_ := Aside0.mk (blk_below (g := gb241) (o := .cells #[.int .i64 t235, .int .i64 t236, .int .i64 t237, .slice Ao18 t238.length co18] 27 (0, 0)) (by (with_reducible repeat first | refine blk_drewN ?_ _ | refine blk_drew ?_ | refine blk_alloc ?_ _); exact BK241.out) hb); have n7_ := Aside0.mk (below_step (by repeat (first | (with_reducible first | exact HB.out | apply below_alloc | apply pw_below_drewN | apply below_drew1 | refine below_set ?_ GE241.out) | exact HB.out)) hb); clear HO_13; clear HO_14; clear HO_16; clear HO_19; clear HO_242003; clear BK241; clear HB; have HO_13 := n0_; have HO_14 := n1_; have HO_16 := n2_; have HO_19 := n3_; have HO_242003 := n4_; have HO255 := n5_; have BK241 := n6_; have HB := n7_; clear n0_ n1_ n2_ n3_ n4_ n5_ n6_ n7_; (try clear hb); (try clear hb2); (try clear hk); (try clear hi); (try clear ho0); obtain ⟨Ao63, co63, eo63⟩ := Kd.R_slice HO255.out; subst eo63; have p256 : 0 ≤ (x20_3 : Int) := of_decide_eq_true (by first | (with_reducible assumption) | assumption); have q256 : x20_3 < (l4.length : Int) := of_decide_eq_true (by first | (with_reducible assumption) | assumption); obtain ⟨ad256, e256, hx256_0⟩ := Kd.at_int HR4.out x20_3 p256 q256; cases e256; replace hx256_0 := (HB.out.cell (World.block_lt_of_cell? w _ hx256_0)).trans hx256_0; replace p256 := eq_true p256; replace q256 := eq_true q256) | ((with_reducible refine gate_callee (f := 17) rfl ?_); refine goesL_ (some 107) rfl rfl Try.func17 (by kernel_rfl) rfl #[.int .i64 (rd l4 x20_3), .int .i64 (t253.length : Int)] rfl (by (try simp only [List.map_toArray, List.map_cons, List.map_nil]); first | done | rfl | (simp only [List.length_drop, List.length_take]; rfl)) ?_; (with_reducible refine (racewaylaw6_pick.calls (rd l4 x20_3) (t253.length : Int) t257 _ A51.out).mono ?_); rintro e w' ⟨rfl, ⟨nd, rfl⟩⟩; refine ⟨_, rfl, ?_⟩; have p258 : 0 ≤ (t257 : Int) := of_decide_eq_true (by first | (with_reducible assumption) | assumption); have q258 : t257 < (t253.length : Int) := of_decide_eq_true (by first | (with_reducible assumption) | assumption); obtain ⟨ad258, e258, hx258_0⟩ := Kd.at_int (Kd.R_reads' HO255.out).2.2 t257 p258 q258; cases e258; replace p258 := eq_true p258; replace q258 := eq_true q258; have hcz64_0 : w62.cell? ⟨gb241, 0, none⟩ = some (.int .i64 t235) := (blk_cell BK241.out 0).trans rfl; have hcz64_1 : w62.cell? ⟨gb241, 1, none⟩ = some (.int .i64 t236) := (blk_cell BK241.out 1).trans rfl; have hcz64_2 : w62.cell? ⟨gb241, 2, none⟩ = some (.int .i64 t237) := (blk_cell BK241.out 2).trans rfl; have hcz64_3 : w62.cell? ⟨gb241, 3, none⟩ = some (.slice Ao18 t238.length co18) := (blk_cell BK241.out 3).trans rfl; have hfz64_0 := blk_frozen BK241.out 0; have hfz64_1 := blk_frozen BK241.out 1; have hfz64_2 := blk_frozen BK241.out 2; have hfz64_3 := blk_frozen BK241.out 3) | ((with_reducible refine gate_callee (f := 21) rfl ?_); refine goesL_ (some 113) rfl rfl Try.func21 (by kernel_rfl) rfl #[.agg #[.int .i64 t235, .int .i64 t236, .int .i64 t237, .slice Ao18 t238.length co18], .int .i64 (rd t253 t257)] rfl (by (try simp only [List.map_toArray, List.map_cons, List.map_nil]); first | done | rfl | (simp only [List.length_drop, List.length_take]; rfl)) ?_; (with_reducible refine (residual_Ends.calls kj34 t235 t236 t237 _ _ t238 (rd t253 t257) t259 t260 _ ?side1 ?side2 A54.out).mono ?_); (case side1 => repeat (first | exact (Kd.R_reads' HO_242003.out).2.2 | (with_reducible refine Kd.C_alloc ?_ _) | (with_reducible refine Kd.C_drewN ?_ _) | (with_reducible refine Kd.C_drew ?_))); (case side2 => exact (Kd.R_reads' HO_242003.out).2.1); rintro e w65 ⟨rfl, hb⟩; refine ⟨_, rfl, ?_⟩; have n0_ := Aside0.mk (Kd.R_below (by (with_reducible repeat first | apply Kd.R_alloc | apply Kd.R_drewN | apply Kd.R_drew); exact HO_13.out) hb); have n1_ := Aside0.mk (Kd.R_below (by (with_reducible repeat first | apply Kd.R_alloc | apply Kd.R_drewN | apply Kd.R_drew); exact HO_14.out) hb); have n2_ := Aside0.mk (Kd.R_below (by (with_reducible repeat first | apply Kd.R_alloc | apply Kd.R_drewN | apply Kd.R_drew); exact HO_16.out) hb); have n3_ := Aside0.mk (Kd.R_below (by (with_reducible repeat first | apply Kd.R_alloc | apply Kd.R_drewN | apply Kd.R_drew); exact HO_19.out) hb); have n4_ := Aside0.mk (Kd.R_below (by (with_reducible repeat first | apply Kd.R_alloc | apply Kd.R_drewN | apply Kd.R_drew); exact HO_242003.out) hb); have n5_ := Aside0.mk (Kd.R_below (by (with_reducible repeat first | apply Kd.R_alloc | apply Kd.R_drewN | apply Kd.R_drew); exact HO255.out) hb); have n6_ := Aside0.mk (blk_below (g := gb241) (o := .cells #[.int .i64 t235, .int .i64 t236, .int .i64 t237, .slice Ao18 t238.length co18] 27 (0, 0)) (by (with_reducible repeat first | refine blk_drewN ?_ _ | refine blk_drew ?_ | refine blk_alloc ?_ _); exact BK241.out) hb); have n7_ := Aside0.mk (below_step (by repeat (first | (with_reducible first | exact HB.out | apply below_alloc | apply pw_below_drewN | apply below_drew1 | refine below_set ?_ GE241.out) | exact HB.out)) hb); clear HO_13; clear HO_14; clear HO_16; clear HO_19; clear HO_242003; clear HO255; clear BK241; clear HB; have HO_13 := n0_; have HO_14 := n1_; have HO_16 := n2_; have HO_19 := n3_; have HO_242003 := n4_; have HO255 := n5_; have BK241 := n6_; have HB := n7_; clear n0_ n1_ n2_ n3_ n4_ n5_ n6_ n7_; (try clear hb); (try clear hb2); (try clear hk); (try clear hi); have p261 : 0 ≤ (t260 : Int) := of_decide_eq_true (by first | (with_reducible assumption) | assumption); have q261 : t260 < (y252.length : Int) := (by have h_ : (t260 : Int) < ((x16_3.length : Int) : Int) := of_decide_eq_true (by first | (with_reducible assumption) | assumption); first | (have e_ := (Kd.R_reads' HO_16.out).1; omega) | simpa only [Ny252.out, List.length_set] using h_); have ql261 : ((t260 : Int) < ((x16_3.length : Int) : Int)) = True := eq_true (of_decide_eq_true (by first | (with_reducible assumption) | assumption)); obtain ⟨ad261, e261, hx261_0⟩ := Kd.at_bool (Kd.R_reads' HO_16.out).2.2 t260 p261 q261; (try rw [← Nbq57.out] at hx261_0); obtain rfl : (⟨go41, 0, none⟩ : Addr) = ad261 := (by injection e261); (first | simp only [add_plain] at hx261_0 | simp only [add_at] at hx261_0 | simp only [Addr.add, Nat.zero_add] at hx261_0 | skip); replace p261 := eq_true p261; replace q261 := eq_true q261))
                          go_roundg kj34
                          case measure => have := HJ6.out; have := HJ13.out; have := HK3.out; have := HJ34.out; omega
                          case rel => exact ⟨(y252), (x17_3), (x18_3), (x19_3), (wrap64 (x20_3 + 1)), (by first | rfl | (simp; done) | (simp [*]; done)), (by first | rfl | (simp; done) | (simp [*]; done)), (by first | rfl | (simp; done) | (simp [*]; done)), H', ⟨by have := HJ6.out; have := HJ13.out; have := HK3.out; have := HJ34.out; omega⟩, ⟨by (with_reducible repeat first | apply Kd.R_alloc | apply Kd.R_drewN | apply Kd.R_drew); exact HO_13.out⟩, ⟨by (with_reducible repeat first | apply Kd.R_alloc | apply Kd.R_drewN | apply Kd.R_drew); exact HO_14.out⟩, ⟨by (with_reducible repeat first | apply Kd.R_alloc | apply Kd.R_drewN | apply Kd.R_drew); exact HO_16.out⟩, ⟨by (with_reducible repeat first | apply Kd.R_alloc | apply Kd.R_drewN | apply Kd.R_drew); exact Kd.R_mono HO_19.out (fun _ hk => trivial)⟩, ⟨by (with_reducible repeat first | apply Kd.R_alloc | apply Kd.R_drewN | apply Kd.R_drew); exact HO_242003.out⟩, ⟨by (with_reducible repeat first | refine blk_drewN ?_ _ | refine blk_drew ?_ | refine blk_alloc ?_ _); exact BK241.out⟩, ⟨by repeat (first | (with_reducible first | exact HB.out | apply below_alloc | apply pw_below_drewN | apply below_drew1 | refine below_set ?_ GE241.out) | exact HB.out)⟩⟩
                        ·(replace c58 := Bool.eq_false_iff.mpr c58);(subst c58);(have H1 : (if 0 ≤ (rd t253 t257) then (if (rd t253 t257) < (t245.length : Int) then (if (rd t245 (rd t253 t257)) = 0 then (racewaylaw6_ResidualPushes.l0 kj34 l4 t242 t245 y252 x17_3 x18_3 x19_3 (wrap64 (x20_3 + 1)) t235 t236 t237 t238) else (if x19_3.length < 17592186044416 then (racewaylaw6_ResidualPushes.l0 kj34 l4 t242 t245 y252 t260 (mn x18_3 (rd t245 (rd t253 t257))) (x19_3 ++ [rd t253 t257]) (wrap64 (x20_3 + 1)) t235 t236 t237 t238) else (none))) else (none)) else (none)) = some r := by rw [if_neg (show ¬ (false = true) by decide)] at H; exact H);(clear H);(have H := H1);(clear H1)
                         by_cases c66 : 0 ≤ (rd t253 t257)
                         ·(rw [if_pos c66] at H);(have c66b0 : decide (0 ≤ (rd t253 t257)) = true := decide_eq_true c66);(clear c66)
                          by_cases c67 : (rd t253 t257) < (t245.length : Int)
                          ·(rw [if_pos c67] at H);(have c67b0 : decide ((rd t253 t257) < (t245.length : Int)) = true := decide_eq_true c67);(clear c67)
                           by_cases c68 : (rd t245 (rd t253 t257)) = 0
                           ·(rw [if_pos c68] at H);(have c68b0 : ((rd t245 (rd t253 t257)) == 0) = true := beq_iff_eq.mpr c68);(have c68b1 : ((rd t245 (rd t253 t257)) != 0) = false := bne_eq_false_iff_eq.mpr c68);(clear c68)
                            as_aux_lemma =>
                             (have H' := Aside0.mk H);(clear H);(have p41 : 0 ≤ (x17_3 : Int) := of_decide_eq_true (by first | (with_reducible assumption) | assumption));(have q41 : (x17_3 : Int) < ((x16_3.length : Int) : Int) := of_decide_eq_true (by first | (with_reducible assumption) | assumption));(obtain ⟨go41, co41, eo41, gb41, gl41, cl41, HG41⟩ := Kd.R_form HO_16.out (by omega));((first | cases eo41 | (injection eo41 with ea_ en_ ec_; (first | subst ea_ | (injection ea_ with ea_; subst ea_)); subst ec_; clear en_)));(have GB41 := Aside0.mk gb41);(have GG41 := Aside0.mk HG41);(clear gb41 gl41 HG41);(obtain ⟨hx41_0, hf41_0⟩ := Kd.R_celln false HO_16.out (x17_3 : Int) p41 q41);(replace p41 := eq_true p41);(replace q41 := eq_true q41);(have HP69 := Kd.R_putg HO_16.out (x17_3 : Int) true)
                             go_wp2_with (first | ((with_reducible refine gate_store (t := 4) (p := 93) rfl ?_); refine store_event (t := 4) (p := 93) (v := ?vo_w70) (w1 := (wc.setCell ⟨go41, (x17_3 : Int).toNat, none⟩ (.bool true))) ?hg ?ho ?hn ?hr ?_; (case ho => rfl); (case hg => rfl); (case hn => rfl); (case hr => first | (go_simp; done) | (go_simp; rfl)); intro w70 hw; have hg : wc.grownBy w70 (some go41) := (by rw [hw]; exact HP69.2); have hp_ : Kd.R Kd.bool 4 w70 w.heap.size (fun _ => True) (.slice (some ⟨go41, 0, none⟩) x16_3.length co41) y252 := (by rw [hw, Ny252.out]; exact HP69.1); clear HP69; have n0_ := Aside0.mk (Kd.R_over' (v := (.slice (some ⟨go41, 0, none⟩) x16_3.length co41)) (by (with_reducible repeat first | apply Kd.R_alloc | apply Kd.R_drewN | apply Kd.R_drew); exact HO_13.out) (Kd.R_typed HO_16.out) (by decide) hg); have n1_ := Aside0.mk (Kd.R_over' (v := (.slice (some ⟨go41, 0, none⟩) x16_3.length co41)) (by (with_reducible repeat first | apply Kd.R_alloc | apply Kd.R_drewN | apply Kd.R_drew); exact HO_14.out) (Kd.R_typed HO_16.out) (by decide) hg); have n2_ := Aside0.mk (hp_); have n3_ := Aside0.mk (Kd.R_over' (v := (.slice (some ⟨go41, 0, none⟩) x16_3.length co41)) (by (with_reducible repeat first | apply Kd.R_alloc | apply Kd.R_drewN | apply Kd.R_drew); exact HO_19.out) (Kd.R_typed HO_16.out) (by decide) hg); have n4_ := Aside0.mk (Kd.R_over' (v := (.slice (some ⟨go41, 0, none⟩) x16_3.length co41)) (by (with_reducible repeat first | apply Kd.R_alloc | apply Kd.R_drewN | apply Kd.R_drew); exact HO_242003.out) (Kd.R_typed HO_16.out) (by decide) hg); have n5_ := Aside0.mk (blk_grown (g := gb241) (o := .cells #[.int .i64 t235, .int .i64 t236, .int .i64 t237, .slice Ao18 t238.length co18] 27 (0, 0)) (by (with_reducible repeat first | refine blk_drewN ?_ _ | refine blk_drew ?_ | refine blk_alloc ?_ _); exact BK241.out) hg (Kd.R_ne HO_16.out BK241.out (by decide))); have n6_ := Aside0.mk ((by rw [hw]; exact below_set (HB.out) GB41.out : Below w.heap.size w w70)); clear HO_13; clear HO_14; clear HO_16; clear HO_19; clear HO_242003; clear BK241; clear HB; have HO_13 := n0_; have HO_14 := n1_; have HO_16 := n2_; have HO_19 := n3_; have HO_242003 := n4_; have BK241 := n5_; have HB := n6_; clear n0_ n1_ n2_ n3_ n4_ n5_ n6_; clear hg hw hp_; have hcz71_0 : w70.cell? ⟨gb241, 0, none⟩ = some (.int .i64 t235) := (blk_cell BK241.out 0).trans rfl; have hcz71_1 : w70.cell? ⟨gb241, 1, none⟩ = some (.int .i64 t236) := (blk_cell BK241.out 1).trans rfl; have hcz71_2 : w70.cell? ⟨gb241, 2, none⟩ = some (.int .i64 t237) := (blk_cell BK241.out 2).trans rfl; have hcz71_3 : w70.cell? ⟨gb241, 3, none⟩ = some (.slice Ao18 t238.length co18) := (blk_cell BK241.out 3).trans rfl; have hfz71_0 := blk_frozen BK241.out 0; have hfz71_1 := blk_frozen BK241.out 1; have hfz71_2 := blk_frozen BK241.out 2; have hfz71_3 := blk_frozen BK241.out 3) | ((with_reducible refine gate_callee (f := 20) rfl ?_); refine goesL_ (some 96) rfl rfl Try.func20 (by kernel_rfl) rfl #[.agg #[.int .i64 t235, .int .i64 t236, .int .i64 t237, .slice Ao18 t238.length co18], .int .i64 x17_3] rfl (by (try simp only [List.map_toArray, List.map_cons, List.map_nil]); first | done | rfl | (simp only [List.length_drop, List.length_take]; rfl)) ?_; (with_reducible refine (residual_From.calls kj34 t235 t236 t237 _ _ t238 x17_3 t253 _ ?side1 ?side2 A42.out).mono ?_); (case side1 => repeat (first | exact (Kd.R_reads' HO_242003.out).2.2 | (with_reducible refine Kd.C_alloc ?_ _) | (with_reducible refine Kd.C_drewN ?_ _) | (with_reducible refine Kd.C_drew ?_))); (case side2 => exact (Kd.R_reads' HO_242003.out).2.1); rintro e w72 ⟨v254, rfl, ho0, hb⟩; refine ⟨_, rfl, ?_⟩; have n0_ := Aside0.mk (Kd.R_below (by (with_reducible repeat first | apply Kd.R_alloc | apply Kd.R_drewN | apply Kd.R_drew); exact HO_13.out) hb); have n1_ := Aside0.mk (Kd.R_below (by (with_reducible repeat first | apply Kd.R_alloc | apply Kd.R_drewN | apply Kd.R_drew); exact HO_14.out) hb); have n2_ := Aside0.mk (Kd.R_below (by (with_reducible repeat first | apply Kd.R_alloc | apply Kd.R_drewN | apply Kd.R_drew); exact HO_16.out) hb); have n3_ := Aside0.mk (Kd.R_elder' (by (with_reducible repeat first | apply Kd.R_alloc | apply Kd.R_drewN | apply Kd.R_drew); exact HO_19.out) (Kd.R_base ho0) hb); have n4_ := Aside0.mk (Kd.R_below (by (with_reducible repeat first | apply Kd.R_alloc | apply Kd.R_drewN | apply Kd.R_drew); exact HO_242003.out) hb); have n5_ := Aside0.mk (Kd.R_lower (Kd.R_new' ho0 (Kd.R_lt (by (with_reducible repeat first | apply Kd.R_alloc | apply Kd.R_drewN | apply Kd.R_drew); exact HO_19.out))) (below_size (by repeat (first | (with_reducible first | exact HB.out | apply below_alloc | apply pw_below_drewN | apply below_drew1 | refine below_set ?_ GE241.out) | exact HB.out)))); have n6_ := Aside0.mk (blk_below (g := gb241) (o := .cells #[.int .i64 t235, .int .i64 t236, .int .i64 t237, .slice Ao18 t238.length co18] 27 (0, 0)) (by (with_reducible repeat first | refine blk_drewN ?_ _ | refine blk_drew ?_ | refine blk_alloc ?_ _); exact BK241.out) hb); have n7_ := Aside0.mk (below_step (by repeat (first | (with_reducible first | exact HB.out | apply below_alloc | apply pw_below_drewN | apply below_drew1 | refine below_set ?_ GE241.out) | exact HB.out)) hb); clear HO_13; clear HO_14; clear HO_16; clear HO_19; clear HO_242003; clear BK241; clear HB; have HO_13 := n0_; have HO_14 := n1_; have HO_16 := n2_; have HO_19 := n3_; have HO_242003 := n4_; have HO255 := n5_; have BK241 := n6_; have HB := n7_; clear n0_ n1_ n2_ n3_ n4_ n5_ n6_ n7_; (try clear hb); (try clear hb2); (try clear hk); (try clear hi); (try clear ho0); obtain ⟨Ao73, co73, eo73⟩ := Kd.R_slice HO255.out; subst eo73; have p256 : 0 ≤ (x20_3 : Int) := of_decide_eq_true (by first | (with_reducible assumption) | assumption); have q256 : x20_3 < (l4.length : Int) := of_decide_eq_true (by first | (with_reducible assumption) | assumption); obtain ⟨ad256, e256, hx256_0⟩ := Kd.at_int HR4.out x20_3 p256 q256; cases e256; replace hx256_0 := (HB.out.cell (World.block_lt_of_cell? w _ hx256_0)).trans hx256_0; replace p256 := eq_true p256; replace q256 := eq_true q256) | ((with_reducible refine gate_callee (f := 17) rfl ?_); refine goesL_ (some 107) rfl rfl Try.func17 (by kernel_rfl) rfl #[.int .i64 (rd l4 x20_3), .int .i64 (t253.length : Int)] rfl (by (try simp only [List.map_toArray, List.map_cons, List.map_nil]); first | done | rfl | (simp only [List.length_drop, List.length_take]; rfl)) ?_; (with_reducible refine (racewaylaw6_pick.calls (rd l4 x20_3) (t253.length : Int) t257 _ A51.out).mono ?_); rintro e w' ⟨rfl, ⟨nd, rfl⟩⟩; refine ⟨_, rfl, ?_⟩; have p258 : 0 ≤ (t257 : Int) := of_decide_eq_true (by first | (with_reducible assumption) | assumption); have q258 : t257 < (t253.length : Int) := of_decide_eq_true (by first | (with_reducible assumption) | assumption); obtain ⟨ad258, e258, hx258_0⟩ := Kd.at_int (Kd.R_reads' HO255.out).2.2 t257 p258 q258; cases e258; replace p258 := eq_true p258; replace q258 := eq_true q258; have hcz74_0 : w72.cell? ⟨gb241, 0, none⟩ = some (.int .i64 t235) := (blk_cell BK241.out 0).trans rfl; have hcz74_1 : w72.cell? ⟨gb241, 1, none⟩ = some (.int .i64 t236) := (blk_cell BK241.out 1).trans rfl; have hcz74_2 : w72.cell? ⟨gb241, 2, none⟩ = some (.int .i64 t237) := (blk_cell BK241.out 2).trans rfl; have hcz74_3 : w72.cell? ⟨gb241, 3, none⟩ = some (.slice Ao18 t238.length co18) := (blk_cell BK241.out 3).trans rfl; have hfz74_0 := blk_frozen BK241.out 0; have hfz74_1 := blk_frozen BK241.out 1; have hfz74_2 := blk_frozen BK241.out 2; have hfz74_3 := blk_frozen BK241.out 3) | ((with_reducible refine gate_callee (f := 21) rfl ?_); refine goesL_ (some 113) rfl rfl Try.func21 (by kernel_rfl) rfl #[.agg #[.int .i64 t235, .int .i64 t236, .int .i64 t237, .slice Ao18 t238.length co18], .int .i64 (rd t253 t257)] rfl (by (try simp only [List.map_toArray, List.map_cons, List.map_nil]); first | done | rfl | (simp only [List.length_drop, List.length_take]; rfl)) ?_; (with_reducible refine (residual_Ends.calls kj34 t235 t236 t237 _ _ t238 (rd t253 t257) t259 t260 _ ?side1 ?side2 A54.out).mono ?_); (case side1 => repeat (first | exact (Kd.R_reads' HO_242003.out).2.2 | (with_reducible refine Kd.C_alloc ?_ _) | (with_reducible refine Kd.C_drewN ?_ _) | (with_reducible refine Kd.C_drew ?_))); (case side2 => exact (Kd.R_reads' HO_242003.out).2.1); rintro e w75 ⟨rfl, hb⟩; refine ⟨_, rfl, ?_⟩; have n0_ := Aside0.mk (Kd.R_below (by (with_reducible repeat first | apply Kd.R_alloc | apply Kd.R_drewN | apply Kd.R_drew); exact HO_13.out) hb); have n1_ := Aside0.mk (Kd.R_below (by (with_reducible repeat first | apply Kd.R_alloc | apply Kd.R_drewN | apply Kd.R_drew); exact HO_14.out) hb); have n2_ := Aside0.mk (Kd.R_below (by (with_reducible repeat first | apply Kd.R_alloc | apply Kd.R_drewN | apply Kd.R_drew); exact HO_16.out) hb); have n3_ := Aside0.mk (Kd.R_below (by (with_reducible repeat first | apply Kd.R_alloc | apply Kd.R_drewN | apply Kd.R_drew); exact HO_19.out) hb); have n4_ := Aside0.mk (Kd.R_below (by (with_reducible repeat first | apply Kd.R_alloc | apply Kd.R_drewN | apply Kd.R_drew); exact HO_242003.out) hb); have n5_ := Aside0.mk (Kd.R_below (by (with_reducible repeat first | apply Kd.R_alloc | apply Kd.R_drewN | apply Kd.R_drew); exact HO255.out) hb); have n6_ := Aside0.mk (blk_below (g := gb241) (o := .cells #[.int .i64 t235, .int .i64 t236, .int .i64 t237, .slice Ao18 t238.length co18] 27 (0, 0)) (by (with_reducible repeat first | refine blk_drewN ?_ _ | refine blk_drew ?_ | refine blk_alloc ?_ _); exact BK241.out) hb); have n7_ := Aside0.mk (below_step (by repeat (first | (with_reducible first | exact HB.out | apply below_alloc | apply pw_below_drewN | apply below_drew1 | refine below_set ?_ GE241.out) | exact HB.out)) hb); clear HO_13; clear HO_14; clear HO_16; clear HO_19; clear HO_242003; clear HO255; clear BK241; clear HB; have HO_13 := n0_; have HO_14 := n1_; have HO_16 := n2_; have HO_19 := n3_; have HO_242003 := n4_; have HO255 := n5_; have BK241 := n6_; have HB := n7_; clear n0_ n1_ n2_ n3_ n4_ n5_ n6_ n7_; (try clear hb); (try clear hb2); (try clear hk); (try clear hi); have p261 : 0 ≤ (t260 : Int) := of_decide_eq_true (by first | (with_reducible assumption) | assumption); have q261 : t260 < (y252.length : Int) := (by have h_ : (t260 : Int) < ((x16_3.length : Int) : Int) := of_decide_eq_true (by first | (with_reducible assumption) | assumption); first | (have e_ := (Kd.R_reads' HO_16.out).1; omega) | simpa only [Ny252.out, List.length_set] using h_); have ql261 : ((t260 : Int) < ((x16_3.length : Int) : Int)) = True := eq_true (of_decide_eq_true (by first | (with_reducible assumption) | assumption)); obtain ⟨ad261, e261, hx261_0⟩ := Kd.at_bool (Kd.R_reads' HO_16.out).2.2 t260 p261 q261; (try rw [← Nbq57.out] at hx261_0); obtain rfl : (⟨go41, 0, none⟩ : Addr) = ad261 := (by injection e261); (first | simp only [add_plain] at hx261_0 | simp only [add_at] at hx261_0 | simp only [Addr.add, Nat.zero_add] at hx261_0 | skip); replace p261 := eq_true p261; replace q261 := eq_true q261; obtain ⟨Ao76, co76, eo76⟩ := Kd.R_slice HO_14.out; subst eo76; have p262 : 0 ≤ ((rd t253 t257) : Int) := of_decide_eq_true (by first | (with_reducible assumption) | assumption); have q262 : (rd t253 t257) < (t245.length : Int) := of_decide_eq_true (by first | (with_reducible assumption) | assumption); obtain ⟨ad262, e262, hx262_0⟩ := Kd.at_int (Kd.R_reads' HO_14.out).2.2 (rd t253 t257) p262 q262; cases e262; replace p262 := eq_true p262; replace q262 := eq_true q262))
                             go_roundg kj34
                             case measure => have := HJ6.out; have := HJ13.out; have := HK3.out; have := HJ34.out; omega
                             case rel => exact ⟨(y252), (x17_3), (x18_3), (x19_3), (wrap64 (x20_3 + 1)), (by first | rfl | (simp; done) | (simp [*]; done)), (by first | rfl | (simp; done) | (simp [*]; done)), (by first | rfl | (simp; done) | (simp [*]; done)), H', ⟨by have := HJ6.out; have := HJ13.out; have := HK3.out; have := HJ34.out; omega⟩, ⟨by (with_reducible repeat first | apply Kd.R_alloc | apply Kd.R_drewN | apply Kd.R_drew); exact HO_13.out⟩, ⟨by (with_reducible repeat first | apply Kd.R_alloc | apply Kd.R_drewN | apply Kd.R_drew); exact HO_14.out⟩, ⟨by (with_reducible repeat first | apply Kd.R_alloc | apply Kd.R_drewN | apply Kd.R_drew); exact HO_16.out⟩, ⟨by (with_reducible repeat first | apply Kd.R_alloc | apply Kd.R_drewN | apply Kd.R_drew); exact Kd.R_mono HO_19.out (fun _ hk => trivial)⟩, ⟨by (with_reducible repeat first | apply Kd.R_alloc | apply Kd.R_drewN | apply Kd.R_drew); exact HO_242003.out⟩, ⟨by (with_reducible repeat first | refine blk_drewN ?_ _ | refine blk_drew ?_ | refine blk_alloc ?_ _); exact BK241.out⟩, ⟨by repeat (first | (with_reducible first | exact HB.out | apply below_alloc | apply pw_below_drewN | apply below_drew1 | refine below_set ?_ GE241.out) | exact HB.out)⟩⟩
                           ·(rw [if_neg c68] at H);(have c68b0 : ((rd t245 (rd t253 t257)) == 0) = false := beq_eq_false_iff_ne.mpr c68);(have c68b1 : ((rd t245 (rd t253 t257)) != 0) = true := bne_iff_ne.mpr c68)
                            by_cases c77 : x19_3.length < 17592186044416
                            ·(rw [if_pos c77] at H);(have LMc77 := Aside0.mk c77);(clear c77);(obtain ⟨y263, hy263⟩ : ∃ y_ : List Int, y_ = (x19_3 ++ [rd t253 t257]) := ⟨_, rfl⟩);(replace H : (racewaylaw6_ResidualPushes.l0 kj34 l4 t242 t245 y252 t260 (mn x18_3 (rd t245 (rd t253 t257))) y263 (wrap64 (x20_3 + 1)) t235 t236 t237 t238) = some r := by first | (rw [hy263]; with_reducible exact H) | (have H2_ := (Option.bind_some _ _).symm.trans H; rw [hy263]; with_reducible exact H2_) | (have H2_ := (Option.bind_some _ _).symm.trans H; with_reducible exact H2_) | with_reducible exact H | (rw [hy263]; exact H) | exact H);(have Ny263 := Aside0.mk hy263);(clear hy263);(obtain ⟨ji78, hji78⟩ : ∃ j_ : Int, (mn x18_3 (rd t245 (rd t253 t257))) = j_ := ⟨_, rfl⟩);(replace H : (racewaylaw6_ResidualPushes.l0 kj34 l4 t242 t245 y252 t260 ji78 y263 (wrap64 (x20_3 + 1)) t235 t236 t237 t238) = some r := by first | (rw [hji78] at H; exact H) | (simp only [hji78] at H ⊢; exact H));((try rw [hji78] at A42));((try rw [hji78] at A51));((try rw [hji78] at A54));(have hji78_ : (if (rd t245 (rd t253 t257)) < x18_3 then (rd t245 (rd t253 t257)) else x18_3) = ji78 := hji78)
                             as_aux_lemma =>
                              (have H' := Aside0.mk H);(clear H);(have p41 : 0 ≤ (x17_3 : Int) := of_decide_eq_true (by first | (with_reducible assumption) | assumption));(have q41 : (x17_3 : Int) < ((x16_3.length : Int) : Int) := of_decide_eq_true (by first | (with_reducible assumption) | assumption));(obtain ⟨go41, co41, eo41, gb41, gl41, cl41, HG41⟩ := Kd.R_form HO_16.out (by omega));((first | cases eo41 | (injection eo41 with ea_ en_ ec_; (first | subst ea_ | (injection ea_ with ea_; subst ea_)); subst ec_; clear en_)));(have GB41 := Aside0.mk gb41);(have GG41 := Aside0.mk HG41);(clear gb41 gl41 HG41);(obtain ⟨hx41_0, hf41_0⟩ := Kd.R_celln false HO_16.out (x17_3 : Int) p41 q41);(replace p41 := eq_true p41);(replace q41 := eq_true q41);(have HP79 := Kd.R_putg HO_16.out (x17_3 : Int) true)
                              go_wp2_with (first | ((with_reducible refine gate_store (t := 4) (p := 93) rfl ?_); refine store_event (t := 4) (p := 93) (v := ?vo_w80) (w1 := (wc.setCell ⟨go41, (x17_3 : Int).toNat, none⟩ (.bool true))) ?hg ?ho ?hn ?hr ?_; (case ho => rfl); (case hg => rfl); (case hn => rfl); (case hr => first | (go_simp; done) | (go_simp; rfl)); intro w80 hw; have hg : wc.grownBy w80 (some go41) := (by rw [hw]; exact HP79.2); have hp_ : Kd.R Kd.bool 4 w80 w.heap.size (fun _ => True) (.slice (some ⟨go41, 0, none⟩) x16_3.length co41) y252 := (by rw [hw, Ny252.out]; exact HP79.1); clear HP79; have n0_ := Aside0.mk (Kd.R_over' (v := (.slice (some ⟨go41, 0, none⟩) x16_3.length co41)) (by (with_reducible repeat first | apply Kd.R_alloc | apply Kd.R_drewN | apply Kd.R_drew); exact HO_13.out) (Kd.R_typed HO_16.out) (by decide) hg); have n1_ := Aside0.mk (Kd.R_over' (v := (.slice (some ⟨go41, 0, none⟩) x16_3.length co41)) (by (with_reducible repeat first | apply Kd.R_alloc | apply Kd.R_drewN | apply Kd.R_drew); exact HO_14.out) (Kd.R_typed HO_16.out) (by decide) hg); have n2_ := Aside0.mk (hp_); have n3_ := Aside0.mk (Kd.R_over' (v := (.slice (some ⟨go41, 0, none⟩) x16_3.length co41)) (by (with_reducible repeat first | apply Kd.R_alloc | apply Kd.R_drewN | apply Kd.R_drew); exact HO_19.out) (Kd.R_typed HO_16.out) (by decide) hg); have n4_ := Aside0.mk (Kd.R_over' (v := (.slice (some ⟨go41, 0, none⟩) x16_3.length co41)) (by (with_reducible repeat first | apply Kd.R_alloc | apply Kd.R_drewN | apply Kd.R_drew); exact HO_242003.out) (Kd.R_typed HO_16.out) (by decide) hg); have n5_ := Aside0.mk (blk_grown (g := gb241) (o := .cells #[.int .i64 t235, .int .i64 t236, .int .i64 t237, .slice Ao18 t238.length co18] 27 (0, 0)) (by (with_reducible repeat first | refine blk_drewN ?_ _ | refine blk_drew ?_ | refine blk_alloc ?_ _); exact BK241.out) hg (Kd.R_ne HO_16.out BK241.out (by decide))); have n6_ := Aside0.mk ((by rw [hw]; exact below_set (HB.out) GB41.out : Below w.heap.size w w80)); clear HO_13; clear HO_14; clear HO_16; clear HO_19; clear HO_242003; clear BK241; clear HB; have HO_13 := n0_; have HO_14 := n1_; have HO_16 := n2_; have HO_19 := n3_; have HO_242003 := n4_; have BK241 := n5_; have HB := n6_; clear n0_ n1_ n2_ n3_ n4_ n5_ n6_; clear hg hw hp_; have hcz81_0 : w80.cell? ⟨gb241, 0, none⟩ = some (.int .i64 t235) := (blk_cell BK241.out 0).trans rfl; have hcz81_1 : w80.cell? ⟨gb241, 1, none⟩ = some (.int .i64 t236) := (blk_cell BK241.out 1).trans rfl; have hcz81_2 : w80.cell? ⟨gb241, 2, none⟩ = some (.int .i64 t237) := (blk_cell BK241.out 2).trans rfl; have hcz81_3 : w80.cell? ⟨gb241, 3, none⟩ = some (.slice Ao18 t238.length co18) := (blk_cell BK241.out 3).trans rfl; have hfz81_0 := blk_frozen BK241.out 0; have hfz81_1 := blk_frozen BK241.out 1; have hfz81_2 := blk_frozen BK241.out 2; have hfz81_3 := blk_frozen BK241.out 3) | ((with_reducible refine gate_callee (f := 20) rfl ?_); refine goesL_ (some 96) rfl rfl Try.func20 (by kernel_rfl) rfl #[.agg #[.int .i64 t235, .int .i64 t236, .int .i64 t237, .slice Ao18 t238.length co18], .int .i64 x17_3] rfl (by (try simp only [List.map_toArray, List.map_cons, List.map_nil]); first | done | rfl | (simp only [List.length_drop, List.length_take]; rfl)) ?_; (with_reducible refine (residual_From.calls kj34 t235 t236 t237 _ _ t238 x17_3 t253 _ ?side1 ?side2 A42.out).mono ?_); (case side1 => repeat (first | exact (Kd.R_reads' HO_242003.out).2.2 | (with_reducible refine Kd.C_alloc ?_ _) | (with_reducible refine Kd.C_drewN ?_ _) | (with_reducible refine Kd.C_drew ?_))); (case side2 => exact (Kd.R_reads' HO_242003.out).2.1); rintro e w82 ⟨v254, rfl, ho0, hb⟩; refine ⟨_, rfl, ?_⟩; have n0_ := Aside0.mk (Kd.R_below (by (with_reducible repeat first | apply Kd.R_alloc | apply Kd.R_drewN | apply Kd.R_drew); exact HO_13.out) hb); have n1_ := Aside0.mk (Kd.R_below (by (with_reducible repeat first | apply Kd.R_alloc | apply Kd.R_drewN | apply Kd.R_drew); exact HO_14.out) hb); have n2_ := Aside0.mk (Kd.R_below (by (with_reducible repeat first | apply Kd.R_alloc | apply Kd.R_drewN | apply Kd.R_drew); exact HO_16.out) hb); have n3_ := Aside0.mk (Kd.R_elder' (by (with_reducible repeat first | apply Kd.R_alloc | apply Kd.R_drewN | apply Kd.R_drew); exact HO_19.out) (Kd.R_base ho0) hb); have n4_ := Aside0.mk (Kd.R_below (by (with_reducible repeat first | apply Kd.R_alloc | apply Kd.R_drewN | apply Kd.R_drew); exact HO_242003.out) hb); have n5_ := Aside0.mk (Kd.R_lower (Kd.R_new' ho0 (Kd.R_lt (by (with_reducible repeat first | apply Kd.R_alloc | apply Kd.R_drewN | apply Kd.R_drew); exact HO_19.out))) (below_size (by repeat (first | (with_reducible first | exact HB.out | apply below_alloc | apply pw_below_drewN | apply below_drew1 | refine below_set ?_ GE241.out) | exact HB.out)))); have n6_ := Aside0.mk (blk_below (g := gb241) (o := .cells #[.int .i64 t235, .int .i64 t236, .int .i64 t237, .slice Ao18 t238.length co18] 27 (0, 0)) (by (with_reducible repeat first | refine blk_drewN ?_ _ | refine blk_drew ?_ | refine blk_alloc ?_ _); exact BK241.out) hb); have n7_ := Aside0.mk (below_step (by repeat (first | (with_reducible first | exact HB.out | apply below_alloc | apply pw_below_drewN | apply below_drew1 | refine below_set ?_ GE241.out) | exact HB.out)) hb); clear HO_13; clear HO_14; clear HO_16; clear HO_19; clear HO_242003; clear BK241; clear HB; have HO_13 := n0_; have HO_14 := n1_; have HO_16 := n2_; have HO_19 := n3_; have HO_242003 := n4_; have HO255 := n5_; have BK241 := n6_; have HB := n7_; clear n0_ n1_ n2_ n3_ n4_ n5_ n6_ n7_; (try clear hb); (try clear hb2); (try clear hk); (try clear hi); (try clear ho0); obtain ⟨Ao83, co83, eo83⟩ := Kd.R_slice HO255.out; subst eo83; have p256 : 0 ≤ (x20_3 : Int) := of_decide_eq_true (by first | (with_reducible assumption) | assumption); have q256 : x20_3 < (l4.length : Int) := of_decide_eq_true (by first | (with_reducible assumption) | assumption); obtain ⟨ad256, e256, hx256_0⟩ := Kd.at_int HR4.out x20_3 p256 q256; cases e256; replace hx256_0 := (HB.out.cell (World.block_lt_of_cell? w _ hx256_0)).trans hx256_0; replace p256 := eq_true p256; replace q256 := eq_true q256) | ((with_reducible refine gate_callee (f := 17) rfl ?_); refine goesL_ (some 107) rfl rfl Try.func17 (by kernel_rfl) rfl #[.int .i64 (rd l4 x20_3), .int .i64 (t253.length : Int)] rfl (by (try simp only [List.map_toArray, List.map_cons, List.map_nil]); first | done | rfl | (simp only [List.length_drop, List.length_take]; rfl)) ?_; (with_reducible refine (racewaylaw6_pick.calls (rd l4 x20_3) (t253.length : Int) t257 _ A51.out).mono ?_); rintro e w' ⟨rfl, ⟨nd, rfl⟩⟩; refine ⟨_, rfl, ?_⟩; have p258 : 0 ≤ (t257 : Int) := of_decide_eq_true (by first | (with_reducible assumption) | assumption); have q258 : t257 < (t253.length : Int) := of_decide_eq_true (by first | (with_reducible assumption) | assumption); obtain ⟨ad258, e258, hx258_0⟩ := Kd.at_int (Kd.R_reads' HO255.out).2.2 t257 p258 q258; cases e258; replace p258 := eq_true p258; replace q258 := eq_true q258; have hcz84_0 : w82.cell? ⟨gb241, 0, none⟩ = some (.int .i64 t235) := (blk_cell BK241.out 0).trans rfl; have hcz84_1 : w82.cell? ⟨gb241, 1, none⟩ = some (.int .i64 t236) := (blk_cell BK241.out 1).trans rfl; have hcz84_2 : w82.cell? ⟨gb241, 2, none⟩ = some (.int .i64 t237) := (blk_cell BK241.out 2).trans rfl; have hcz84_3 : w82.cell? ⟨gb241, 3, none⟩ = some (.slice Ao18 t238.length co18) := (blk_cell BK241.out 3).trans rfl; have hfz84_0 := blk_frozen BK241.out 0; have hfz84_1 := blk_frozen BK241.out 1; have hfz84_2 := blk_frozen BK241.out 2; have hfz84_3 := blk_frozen BK241.out 3) | ((with_reducible refine gate_callee (f := 21) rfl ?_); refine goesL_ (some 113) rfl rfl Try.func21 (by kernel_rfl) rfl #[.agg #[.int .i64 t235, .int .i64 t236, .int .i64 t237, .slice Ao18 t238.length co18], .int .i64 (rd t253 t257)] rfl (by (try simp only [List.map_toArray, List.map_cons, List.map_nil]); first | done | rfl | (simp only [List.length_drop, List.length_take]; rfl)) ?_; (with_reducible refine (residual_Ends.calls kj34 t235 t236 t237 _ _ t238 (rd t253 t257) t259 t260 _ ?side1 ?side2 A54.out).mono ?_); (case side1 => repeat (first | exact (Kd.R_reads' HO_242003.out).2.2 | (with_reducible refine Kd.C_alloc ?_ _) | (with_reducible refine Kd.C_drewN ?_ _) | (with_reducible refine Kd.C_drew ?_))); (case side2 => exact (Kd.R_reads' HO_242003.out).2.1); rintro e w85 ⟨rfl, hb⟩; refine ⟨_, rfl, ?_⟩; have n0_ := Aside0.mk (Kd.R_below (by (with_reducible repeat first | apply Kd.R_alloc | apply Kd.R_drewN | apply Kd.R_drew); exact HO_13.out) hb); have n1_ := Aside0.mk (Kd.R_below (by (with_reducible repeat first | apply Kd.R_alloc | apply Kd.R_drewN | apply Kd.R_drew); exact HO_14.out) hb); have n2_ := Aside0.mk (Kd.R_below (by (with_reducible repeat first | apply Kd.R_alloc | apply Kd.R_drewN | apply Kd.R_drew); exact HO_16.out) hb); have n3_ := Aside0.mk (Kd.R_below (by (with_reducible repeat first | apply Kd.R_alloc | apply Kd.R_drewN | apply Kd.R_drew); exact HO_19.out) hb); have n4_ := Aside0.mk (Kd.R_below (by (with_reducible repeat first | apply Kd.R_alloc | apply Kd.R_drewN | apply Kd.R_drew); exact HO_242003.out) hb); have n5_ := Aside0.mk (Kd.R_below (by (with_reducible repeat first | apply Kd.R_alloc | apply Kd.R_drewN | apply Kd.R_drew); exact HO255.out) hb); have n6_ := Aside0.mk (blk_below (g := gb241) (o := .cells #[.int .i64 t235, .int .i64 t236, .int .i64 t237, .slice Ao18 t238.length co18] 27 (0, 0)) (by (with_reducible repeat first | refine blk_drewN ?_ _ | refine blk_drew ?_ | refine blk_alloc ?_ _); exact BK241.out) hb); have n7_ := Aside0.mk (below_step (by repeat (first | (with_reducible first | exact HB.out | apply below_alloc | apply pw_below_drewN | apply below_drew1 | refine below_set ?_ GE241.out) | exact HB.out)) hb); clear HO_13; clear HO_14; clear HO_16; clear HO_19; clear HO_242003; clear HO255; clear BK241; clear HB; have HO_13 := n0_; have HO_14 := n1_; have HO_16 := n2_; have HO_19 := n3_; have HO_242003 := n4_; have HO255 := n5_; have BK241 := n6_; have HB := n7_; clear n0_ n1_ n2_ n3_ n4_ n5_ n6_ n7_; (try clear hb); (try clear hb2); (try clear hk); (try clear hi); have p261 : 0 ≤ (t260 : Int) := of_decide_eq_true (by first | (with_reducible assumption) | assumption); have q261 : t260 < (y252.length : Int) := (by have h_ : (t260 : Int) < ((x16_3.length : Int) : Int) := of_decide_eq_true (by first | (with_reducible assumption) | assumption); first | (have e_ := (Kd.R_reads' HO_16.out).1; omega) | simpa only [Ny252.out, List.length_set] using h_); have ql261 : ((t260 : Int) < ((x16_3.length : Int) : Int)) = True := eq_true (of_decide_eq_true (by first | (with_reducible assumption) | assumption)); obtain ⟨ad261, e261, hx261_0⟩ := Kd.at_bool (Kd.R_reads' HO_16.out).2.2 t260 p261 q261; (try rw [← Nbq57.out] at hx261_0); obtain rfl : (⟨go41, 0, none⟩ : Addr) = ad261 := (by injection e261); (first | simp only [add_plain] at hx261_0 | simp only [add_at] at hx261_0 | simp only [Addr.add, Nat.zero_add] at hx261_0 | skip); replace p261 := eq_true p261; replace q261 := eq_true q261; obtain ⟨Ao86, co86, eo86⟩ := Kd.R_slice HO_14.out; subst eo86; have p262 : 0 ≤ ((rd t253 t257) : Int) := of_decide_eq_true (by first | (with_reducible assumption) | assumption); have q262 : (rd t253 t257) < (t245.length : Int) := of_decide_eq_true (by first | (with_reducible assumption) | assumption); obtain ⟨ad262, e262, hx262_0⟩ := Kd.at_int (Kd.R_reads' HO_14.out).2.2 (rd t253 t257) p262 q262; cases e262; replace p262 := eq_true p262; replace q262 := eq_true q262) | ((with_reducible refine gate_builtin (b := .append) (xs := #[.tmp 127, .tmp 129]) rfl ?_); (try (refine gate_guard (by rfl) ?_; dsimp only)); at_builtin; refine Kd.R_append (Kd.int .i64) (w0 := w) w.heap.size rfl (.tmp 127) (.tmp 129) 23 3 (.int .i64 0) 8 rfl Try.underlying23 info3 rfl (by decide) (by omega) u19 x19_3 (rd t253 t257) [.int .i64 (rd t253 t257)] (fun k_ => some k_ ≠ (.slice (some ad258) t253.length co83 : Value).ownBlock) (fun _ => False) rfl rfl ?aP (fun _ hk => hk.elim) ?aF ?aO ?aB ?aS ?aL ?_; (case aP => exact rfl); (case aB => exact (by repeat (first | (with_reducible first | exact HB.out | apply below_alloc | apply pw_below_drewN | apply below_drew1 | refine below_set ?_ GE241.out) | exact HB.out))); (case aF => exact (fun k_ hk => Kd.fresh' (Kd.R_lt (by (with_reducible repeat first | apply Kd.R_alloc | apply Kd.R_drewN | apply Kd.R_drew); exact HO255.out)) k_ hk)); (case aO => exact (by (with_reducible repeat first | apply Kd.R_alloc | apply Kd.R_drewN | apply Kd.R_drew); exact Kd.R_mono HO_19.out (fun _ hk => hk.2))); (case aS => exact (below_size (by repeat (first | (with_reducible first | exact HB.out | apply below_alloc | apply pw_below_drewN | apply below_drew1 | refine below_set ?_ GE241.out) | exact HB.out)))); (case aL => have := LMc77.out; omega); intro v264 w87 ho hb hg hat; rw [← Ny263.out] at ho; have n0_ := Aside0.mk (Kd.R_over' (by (with_reducible repeat first | apply Kd.R_alloc | apply Kd.R_drewN | apply Kd.R_drew); exact HO_13.out) (Kd.R_typed (by (with_reducible repeat first | apply Kd.R_alloc | apply Kd.R_drewN | apply Kd.R_drew); exact HO_19.out)) (by decide) hg); have n1_ := Aside0.mk (Kd.R_over' (by (with_reducible repeat first | apply Kd.R_alloc | apply Kd.R_drewN | apply Kd.R_drew); exact HO_14.out) (Kd.R_typed (by (with_reducible repeat first | apply Kd.R_alloc | apply Kd.R_drewN | apply Kd.R_drew); exact HO_19.out)) (by decide) hg); have n2_ := Aside0.mk (Kd.R_over' (by (with_reducible repeat first | apply Kd.R_alloc | apply Kd.R_drewN | apply Kd.R_drew); exact HO_16.out) (Kd.R_typed (by (with_reducible repeat first | apply Kd.R_alloc | apply Kd.R_drewN | apply Kd.R_drew); exact HO_19.out)) (by decide) hg); have n3_ := Aside0.mk (Kd.R_over' (by (with_reducible repeat first | apply Kd.R_alloc | apply Kd.R_drewN | apply Kd.R_drew); exact HO_242003.out) (Kd.R_typed (by (with_reducible repeat first | apply Kd.R_alloc | apply Kd.R_drewN | apply Kd.R_drew); exact HO_19.out)) (by decide) hg); have n4_ := Aside0.mk (blk_grown (g := gb241) (o := .cells #[.int .i64 t235, .int .i64 t236, .int .i64 t237, .slice Ao18 t238.length co18] 27 (0, 0)) (by (with_reducible repeat first | refine blk_drewN ?_ _ | refine blk_drew ?_ | refine blk_alloc ?_ _); exact BK241.out) hg (Kd.R_ne HO_19.out BK241.out (by decide))); have n5_ := Aside0.mk (Kd.R_after (ok := (fun _ => True)) (by (with_reducible repeat first | apply Kd.R_alloc | apply Kd.R_drewN | apply Kd.R_drew); exact HO255.out) hg hat); have n6_ := Aside0.mk (hb); have n7_ := Aside0.mk (ho); clear HO_13; clear HO_14; clear HO_16; clear HO_242003; clear BK241; clear HO255; clear HB; clear HO_19; have HO_13 := n0_; have HO_14 := n1_; have HO_16 := n2_; have HO_242003 := n3_; have BK241 := n4_; have HO255 := n5_; have HB := n6_; have HO265 := n7_; clear n0_ n1_ n2_ n3_ n4_ n5_ n6_ n7_; clear ho hb hg hat; have p266 : 0 ≤ ((rd t253 t257) : Int) := of_decide_eq_true (by first | (with_reducible assumption) | assumption); have q266 : (rd t253 t257) < (t245.length : Int) := of_decide_eq_true (by first | (with_reducible assumption) | assumption); obtain ⟨ad266, e266, hx266_0⟩ := Kd.at_int (Kd.R_reads' HO_14.out).2.2 (rd t253 t257) p266 q266; obtain rfl : ad262 = ad266 := (by injection e266); replace p266 := eq_true p266; replace q266 := eq_true q266))
                              go_roundg kj34
                              case measure => have := HJ6.out; have := HJ13.out; have := HK3.out; have := HJ34.out; omega
                              case rel => exact ⟨(y252), (t260), (ji78), (y263), (wrap64 (x20_3 + 1)), (by first | rfl | (simp; done) | (simp [*]; done)), (by first | rfl | (simp; done) | (simp only [← hji78] <;> (first | rfl | simp)) | (simp [*]; done)), (by first | rfl | (simp; done) | (simp [*]; done)), H', ⟨by have := HJ6.out; have := HJ13.out; have := HK3.out; have := HJ34.out; omega⟩, ⟨by (with_reducible repeat first | apply Kd.R_alloc | apply Kd.R_drewN | apply Kd.R_drew); exact HO_13.out⟩, ⟨by (with_reducible repeat first | apply Kd.R_alloc | apply Kd.R_drewN | apply Kd.R_drew); exact HO_14.out⟩, ⟨by (with_reducible repeat first | apply Kd.R_alloc | apply Kd.R_drewN | apply Kd.R_drew); exact HO_16.out⟩, ⟨by (with_reducible repeat first | apply Kd.R_alloc | apply Kd.R_drewN | apply Kd.R_drew); exact Kd.R_mono HO265.out (fun _ hk => trivial)⟩, ⟨by (with_reducible repeat first | apply Kd.R_alloc | apply Kd.R_drewN | apply Kd.R_drew); exact HO_242003.out⟩, ⟨by (with_reducible repeat first | refine blk_drewN ?_ _ | refine blk_drew ?_ | refine blk_alloc ?_ _); exact BK241.out⟩, ⟨by repeat (first | (with_reducible first | exact HB.out | apply below_alloc | apply pw_below_drewN | apply below_drew1 | refine below_set ?_ GE241.out) | exact HB.out)⟩⟩
                            ·(rw [if_neg c77] at H);(exact absurd H (by simp))
                          ·(rw [if_neg c67] at H);(exact absurd H (by simp))
                         ·(rw [if_neg c66] at H);(exact absurd H (by simp))
                       ·(rw [if_neg c56] at H);(exact absurd H (by simp))
                      ·(rw [if_neg c55] at H);(exact absurd H (by simp))
                     ·(rw [if_neg c53] at H);(exact absurd H (by simp))
                    ·(rw [if_neg c52] at H);(exact absurd H (by simp))
                   ·(rw [if_neg c50] at H);(exact absurd H (by simp))
                  ·(rw [if_neg c49] at H);(exact absurd H (by simp))
                ·(rw [if_neg c40] at H);(exact absurd H (by simp))
               ·(rw [if_neg c39] at H);(exact absurd H (by simp))
              ·(replace c38 := Bool.eq_false_iff.mpr c38);(subst c38);(have H1 : (racewaylaw6_ResidualPushes.j4 kj34 t242 x17_3 x18_3 x19_3 t235 t236 t237 t238) = some r := by rw [if_neg (show ¬ (false = true) by decide)] at H; exact H);(clear H);(have H := H1);(clear H1)
               as_aux_lemma =>
                (have H' := Aside0.mk H);(clear H)
                go_wp2
                go_meet
                case rel => exact ⟨_, (x17_3), (x18_3), (x19_3), (by first | rfl | (simp; done) | (simp [*]; done)), (by first | rfl | (simp; done) | (simp [*]; done)), H', ⟨by have := HJ6.out; have := HJ13.out; have := HK3.out; have := HJ34.out; first | omega | exact Nat.le_refl _⟩, ⟨by (with_reducible repeat first | apply Kd.R_alloc | apply Kd.R_drewN | apply Kd.R_drew); exact Kd.R_mono HO_13.out (fun _ hk => trivial)⟩, ⟨by (with_reducible repeat first | apply Kd.R_alloc | apply Kd.R_drewN | apply Kd.R_drew); exact HO_19.out⟩, ⟨by (with_reducible repeat first | apply Kd.R_alloc | apply Kd.R_drewN | apply Kd.R_drew); exact HO_242003.out⟩, ⟨by (with_reducible repeat first | refine blk_drewN ?_ _ | refine blk_drew ?_ | refine blk_alloc ?_ _); exact BK241.out⟩, ⟨by repeat (first | (with_reducible first | exact HB.out | apply below_alloc | apply pw_below_drewN | apply below_drew1 | refine below_set ?_ GE241.out) | exact HB.out)⟩⟩
         case rest =>
          clear HC30
          try clear c1
          try clear c2
          try clear p2
          try clear q2
          try clear hx2
          try clear c3
          try clear c4
          try clear p4
          try clear q4
          try clear hx4
          try clear c5
          try clear q5
          try clear c6
          try clear p6
          try clear c7
          try clear c8
          try clear c9
          try clear c10
          try clear c14
          try clear c15
          try clear c16
          try clear c17
          try clear c18
          try clear c20
          try clear c21
          try clear c23
          try clear c23b0
          try clear c23b1
          try clear p25
          try clear q25
          try clear hx25
          try clear c26
          try clear p26
          try clear q26
          try clear hx26
          try clear c28
          try clear c28b0
          try clear c28b1
          try clear c29
          try clear c29b0
          try clear c29b1
          try clear c36
          try clear c36b0
          try clear c38
          try clear c39
          try clear c39b0
          try clear c40
          try clear c40b0
          try clear p41
          try clear q41
          try clear hx41
          try clear hf41
          try clear c43
          try clear c43b0
          try clear c43b1
          try clear c43b2
          try clear c49
          try clear c49b0
          try clear c50
          try clear c50b0
          try clear c52
          try clear c52b0
          try clear c53
          try clear c53b0
          try clear c55
          try clear c55b0
          try clear c56
          try clear c56b0
          try clear q57
          try clear c58
          try clear p64
          try clear c66
          try clear c66b0
          try clear c67
          try clear c67b0
          try clear c68
          try clear c68b0
          try clear c68b1
          try clear c77
          try clear hcz17_0
          try clear hcz17_1
          try clear hcz17_2
          try clear hcz17_3
          try clear hcz20_0
          try clear hcz20_1
          try clear hcz20_2
          try clear hcz20_3
          try clear hcz25_0
          try clear hcz25_1
          try clear hcz25_2
          try clear hcz25_3
          try clear hcz31_0
          try clear hcz31_1
          try clear hcz31_2
          try clear hcz31_3
          try clear hcz34_0
          try clear hcz34_1
          try clear hcz34_2
          try clear hcz34_3
          try clear hcz37_0
          try clear hcz37_1
          try clear hcz37_2
          try clear hcz37_3
          try clear hcz46_0
          try clear hcz46_1
          try clear hcz46_2
          try clear hcz46_3
          try clear hcz61_0
          try clear hcz61_1
          try clear hcz61_2
          try clear hcz61_3
          try clear hcz64_0
          try clear hcz64_1
          try clear hcz64_2
          try clear hcz64_3
          try clear hcz71_0
          try clear hcz71_1
          try clear hcz71_2
          try clear hcz71_3
          try clear hcz74_0
          try clear hcz74_1
          try clear hcz74_2
          try clear hcz74_3
          try clear hcz81_0
          try clear hcz81_1
          try clear hcz81_2
          try clear hcz81_3
          try clear hcz84_0
          try clear hcz84_1
          try clear hcz84_2
          try clear hcz84_3
          try clear hfz17_0
          try clear hfz17_1
          try clear hfz17_2
          try clear hfz17_3
          try clear hfz20_0
          try clear hfz20_1
          try clear hfz20_2
          try clear hfz20_3
          try clear hfz25_0
          try clear hfz25_1
          try clear hfz25_2
          try clear hfz25_3
          try clear hfz31_0
          try clear hfz31_1
          try clear hfz31_2
          try clear hfz31_3
          try clear hfz34_0
          try clear hfz34_1
          try clear hfz34_2
          try clear hfz34_3
          try clear hfz37_0
          try clear hfz37_1
          try clear hfz37_2
          try clear hfz37_3
          try clear hfz46_0
          try clear hfz46_1
          try clear hfz46_2
          try clear hfz46_3
          try clear hfz61_0
          try clear hfz61_1
          try clear hfz61_2
          try clear hfz61_3
          try clear hfz64_0
          try clear hfz64_1
          try clear hfz64_2
          try clear hfz64_3
          try clear hfz71_0
          try clear hfz71_1
          try clear hfz71_2
          try clear hfz71_3
          try clear hfz74_0
          try clear hfz74_1
          try clear hfz74_2
          try clear hfz74_3
          try clear hfz81_0
          try clear hfz81_1
          try clear hfz81_2
          try clear hfz81_3
          try clear hfz84_0
          try clear hfz84_1
          try clear hfz84_2
          try clear hfz84_3
          try clear hx256_0
          try clear hx258_0
          try clear hx261_0
          try clear hx262_0
          try clear hx266_0
          try clear hx41_0
          try clear p2
          try clear p256
          try clear p258
          try clear p261
          try clear p262
          try clear p266
          try clear p41
          try clear p6
          try clear q256
          try clear q258
          try clear q261
          try clear q262
          try clear q266
          try clear q41
          obtain ⟨kq, x17_29, x18_29, x19_29, rfl, rfl, HA, HJ29, HO_13, HO_19, HO_242003, BK241, HB⟩ := hcut
          cases kq with
          | zero => exact absurd HA.out (by simp [racewaylaw6_ResidualPushes.j4])
          | succ kj29 =>
           (have H := HA.out);(clear HA);(simp only [racewaylaw6_ResidualPushes.j4] at H)
           by_cases c88 : x17_29 = t237
           ·(rw [if_pos c88] at H);(have c88b0 : (x17_29 == t237) = true := beq_iff_eq.mpr c88);(have c88b1 : (x17_29 != t237) = false := bne_eq_false_iff_eq.mpr c88);(clear c88);(replace H := Option.bind_eq_some_iff.mp H);(obtain ⟨⟨t271, t274⟩, A890, H⟩ := H);(replace H : ((flow_Value.f kj29 t235 t236 t237 t238 t242).bind fun bt275 => ((flow_Value.f kj29 t235 t236 t237 t238 t271).bind fun bt277 => ((residual_Push.f kj29 t235 t236 t237 t238 t242 x19_29 (wrap64 (x18_29 + 1))).bind fun bt279 => (if t274 = 0 then (if bt277.2 = 0 then (if bt277.1 = (wrap64 (bt275.1 + x18_29)) then (racewaylaw6_ResidualPushes.j5 kj29 t242 x18_29 x19_29 t271 (bt279.2 != 9) t235 t236 t237 t238) else (racewaylaw6_ResidualPushes.j5 kj29 t242 x18_29 x19_29 t271 true t235 t236 t237 t238)) else (racewaylaw6_ResidualPushes.j5 kj29 t242 x18_29 x19_29 t271 true t235 t236 t237 t238)) else (racewaylaw6_ResidualPushes.j5 kj29 t242 x18_29 x19_29 t271 true t235 t236 t237 t238))))) = some r := H);(have A89 := Aside0.mk A890);(clear A890);(replace H := Option.bind_eq_some_iff.mp H);(obtain ⟨⟨t275, t276⟩, A900, H⟩ := H);(replace H : ((flow_Value.f kj29 t235 t236 t237 t238 t271).bind fun bt277 => ((residual_Push.f kj29 t235 t236 t237 t238 t242 x19_29 (wrap64 (x18_29 + 1))).bind fun bt279 => (if t274 = 0 then (if bt277.2 = 0 then (if bt277.1 = (wrap64 (t275 + x18_29)) then (racewaylaw6_ResidualPushes.j5 kj29 t242 x18_29 x19_29 t271 (bt279.2 != 9) t235 t236 t237 t238) else (racewaylaw6_ResidualPushes.j5 kj29 t242 x18_29 x19_29 t271 true t235 t236 t237 t238)) else (racewaylaw6_ResidualPushes.j5 kj29 t242 x18_29 x19_29 t271 true t235 t236 t237 t238)) else (racewaylaw6_ResidualPushes.j5 kj29 t242 x18_29 x19_29 t271 true t235 t236 t237 t238)))) = some r := H);(have A90 := Aside0.mk A900);(clear A900);(replace H := Option.bind_eq_some_iff.mp H);(obtain ⟨⟨t277, t278⟩, A910, H⟩ := H);(replace H : ((residual_Push.f kj29 t235 t236 t237 t238 t242 x19_29 (wrap64 (x18_29 + 1))).bind fun bt279 => (if t274 = 0 then (if t278 = 0 then (if t277 = (wrap64 (t275 + x18_29)) then (racewaylaw6_ResidualPushes.j5 kj29 t242 x18_29 x19_29 t271 (bt279.2 != 9) t235 t236 t237 t238) else (racewaylaw6_ResidualPushes.j5 kj29 t242 x18_29 x19_29 t271 true t235 t236 t237 t238)) else (racewaylaw6_ResidualPushes.j5 kj29 t242 x18_29 x19_29 t271 true t235 t236 t237 t238)) else (racewaylaw6_ResidualPushes.j5 kj29 t242 x18_29 x19_29 t271 true t235 t236 t237 t238))) = some r := H);(have A91 := Aside0.mk A910);(clear A910);(replace H := Option.bind_eq_some_iff.mp H);(obtain ⟨⟨t279, t282⟩, A920, H⟩ := H);(replace H : (if t274 = 0 then (if t278 = 0 then (if t277 = (wrap64 (t275 + x18_29)) then (racewaylaw6_ResidualPushes.j5 kj29 t242 x18_29 x19_29 t271 (t282 != 9) t235 t236 t237 t238) else (racewaylaw6_ResidualPushes.j5 kj29 t242 x18_29 x19_29 t271 true t235 t236 t237 t238)) else (racewaylaw6_ResidualPushes.j5 kj29 t242 x18_29 x19_29 t271 true t235 t236 t237 t238)) else (racewaylaw6_ResidualPushes.j5 kj29 t242 x18_29 x19_29 t271 true t235 t236 t237 t238)) = some r := H);(have A92 := Aside0.mk A920);(clear A920);(have HC93 := Aside0.mk H);(clear H);(have hcz94_0 : wc.cell? ⟨gb241, 0, none⟩ = some (.int .i64 t235) := (blk_cell BK241.out 0).trans rfl);(have hcz94_1 : wc.cell? ⟨gb241, 1, none⟩ = some (.int .i64 t236) := (blk_cell BK241.out 1).trans rfl);(have hcz94_2 : wc.cell? ⟨gb241, 2, none⟩ = some (.int .i64 t237) := (blk_cell BK241.out 2).trans rfl);(have hcz94_3 : wc.cell? ⟨gb241, 3, none⟩ = some (.slice Ao18 t238.length co18) := (blk_cell BK241.out 3).trans rfl);(have hfz94_0 := blk_frozen BK241.out 0);(have hfz94_1 := blk_frozen BK241.out 1);(have hfz94_2 := blk_frozen BK241.out 2);(have hfz94_3 := blk_frozen BK241.out 3);(obtain ⟨Ao95, co95, eo95⟩ := Kd.R_slice HO_19.out);(subst eo95)
            go_upto_region 32 with (first | ((with_reducible refine gate_callee (f := 28) rfl ?_); refine goesL_ (some 156) rfl rfl Try.func28 (by kernel_rfl) rfl #[.agg #[.int .i64 t235, .int .i64 t236, .int .i64 t237, .slice Ao18 t238.length co18], .slice Ao21 t242.length co21, .slice Ao95 x19_29.length co95, .int .i64 x18_29] rfl (by (try simp only [List.map_toArray, List.map_cons, List.map_nil]); first | done | rfl | (simp only [List.length_drop, List.length_take]; rfl)) ?_; (with_reducible refine (residual_Push.calls kj29 t235 t236 t237 _ _ t238 _ _ t242 _ _ x19_29 x18_29 t271 t274 _ ?side1 ?side2 ?side3 ?side4 ?side5 ?side6 A89.out).mono ?_); (case side1 => repeat (first | exact (Kd.R_reads' HO_242003.out).2.2 | (with_reducible refine Kd.C_alloc ?_ _) | (with_reducible refine Kd.C_drewN ?_ _) | (with_reducible refine Kd.C_drew ?_))); (case side2 => exact (Kd.R_reads' HO_242003.out).2.1); (case side3 => repeat (first | exact (Kd.R_reads' HO_13.out).2.2 | (with_reducible refine Kd.C_alloc ?_ _) | (with_reducible refine Kd.C_drewN ?_ _) | (with_reducible refine Kd.C_drew ?_))); (case side4 => exact (Kd.R_reads' HO_13.out).2.1); (case side5 => repeat (first | exact (Kd.R_reads' HO_19.out).2.2 | (with_reducible refine Kd.C_alloc ?_ _) | (with_reducible refine Kd.C_drewN ?_ _) | (with_reducible refine Kd.C_drew ?_))); (case side6 => exact (Kd.R_reads' HO_19.out).2.1); rintro e w96 ⟨v272, rfl, ho0, hb⟩; refine ⟨_, rfl, ?_⟩; have n0_ := Aside0.mk (Kd.R_elder' (by (with_reducible repeat first | apply Kd.R_alloc | apply Kd.R_drewN | apply Kd.R_drew); exact HO_13.out) (Kd.R_base ho0) hb); have n1_ := Aside0.mk (Kd.R_below (by (with_reducible repeat first | apply Kd.R_alloc | apply Kd.R_drewN | apply Kd.R_drew); exact HO_19.out) hb); have n2_ := Aside0.mk (Kd.R_below (by (with_reducible repeat first | apply Kd.R_alloc | apply Kd.R_drewN | apply Kd.R_drew); exact HO_242003.out) hb); have n3_ := Aside0.mk (Kd.R_lower (Kd.R_new' ho0 (Kd.R_lt (by (with_reducible repeat first | apply Kd.R_alloc | apply Kd.R_drewN | apply Kd.R_drew); exact HO_13.out))) (below_size (by repeat (first | (with_reducible first | exact HB.out | apply below_alloc | apply pw_below_drewN | apply below_drew1 | refine below_set ?_ GE241.out) | exact HB.out)))); have n4_ := Aside0.mk (blk_below (g := gb241) (o := .cells #[.int .i64 t235, .int .i64 t236, .int .i64 t237, .slice Ao18 t238.length co18] 27 (0, 0)) (by (with_reducible repeat first | refine blk_drewN ?_ _ | refine blk_drew ?_ | refine blk_alloc ?_ _); exact BK241.out) hb); have n5_ := Aside0.mk (below_step (by repeat (first | (with_reducible first | exact HB.out | apply below_alloc | apply pw_below_drewN | apply below_drew1 | refine below_set ?_ GE241.out) | exact HB.out)) hb); clear HO_13; clear HO_19; clear HO_242003; clear BK241; clear HB; have HO_13 := n0_; have HO_19 := n1_; have HO_242003 := n2_; have HO273 := n3_; have BK241 := n4_; have HB := n5_; clear n0_ n1_ n2_ n3_ n4_ n5_; (try clear hb); (try clear hb2); (try clear hk); (try clear hi); (try clear ho0); have hcz97_0 : w96.cell? ⟨gb241, 0, none⟩ = some (.int .i64 t235) := (blk_cell BK241.out 0).trans rfl; have hcz97_1 : w96.cell? ⟨gb241, 1, none⟩ = some (.int .i64 t236) := (blk_cell BK241.out 1).trans rfl; have hcz97_2 : w96.cell? ⟨gb241, 2, none⟩ = some (.int .i64 t237) := (blk_cell BK241.out 2).trans rfl; have hcz97_3 : w96.cell? ⟨gb241, 3, none⟩ = some (.slice Ao18 t238.length co18) := (blk_cell BK241.out 3).trans rfl; have hfz97_0 := blk_frozen BK241.out 0; have hfz97_1 := blk_frozen BK241.out 1; have hfz97_2 := blk_frozen BK241.out 2; have hfz97_3 := blk_frozen BK241.out 3) | ((with_reducible refine gate_callee (f := 30) rfl ?_); refine goesL_ (some 162) rfl rfl Try.func30 (by kernel_rfl) rfl #[.agg #[.int .i64 t235, .int .i64 t236, .int .i64 t237, .slice Ao18 t238.length co18], .slice Ao21 t242.length co21] rfl (by (try simp only [List.map_toArray, List.map_cons, List.map_nil]); first | done | rfl | (simp only [List.length_drop, List.length_take]; rfl)) ?_; (with_reducible refine (flow_Value.calls kj29 t235 t236 t237 _ _ t238 _ _ t242 t275 t276 _ ?side1 ?side2 ?side3 ?side4 A90.out).mono ?_); (case side1 => repeat (first | exact (Kd.R_reads' HO_242003.out).2.2 | (with_reducible refine Kd.C_alloc ?_ _) | (with_reducible refine Kd.C_drewN ?_ _) | (with_reducible refine Kd.C_drew ?_))); (case side2 => exact (Kd.R_reads' HO_242003.out).2.1); (case side3 => repeat (first | exact (Kd.R_reads' HO_13.out).2.2 | (with_reducible refine Kd.C_alloc ?_ _) | (with_reducible refine Kd.C_drewN ?_ _) | (with_reducible refine Kd.C_drew ?_))); (case side4 => exact (Kd.R_reads' HO_13.out).2.1); rintro e w98 ⟨rfl, hb⟩; refine ⟨_, rfl, ?_⟩; have n0_ := Aside0.mk (Kd.R_below (by (with_reducible repeat first | apply Kd.R_alloc | apply Kd.R_drewN | apply Kd.R_drew); exact HO_13.out) hb); have n1_ := Aside0.mk (Kd.R_below (by (with_reducible repeat first | apply Kd.R_alloc | apply Kd.R_drewN | apply Kd.R_drew); exact HO_19.out) hb); have n2_ := Aside0.mk (Kd.R_below (by (with_reducible repeat first | apply Kd.R_alloc | apply Kd.R_drewN | apply Kd.R_drew); exact HO_242003.out) hb); have n3_ := Aside0.mk (Kd.R_below (by (with_reducible repeat first | apply Kd.R_alloc | apply Kd.R_drewN | apply Kd.R_drew); exact HO273.out) hb); have n4_ := Aside0.mk (blk_below (g := gb241) (o := .cells #[.int .i64 t235, .int .i64 t236, .int .i64 t237, .slice Ao18 t238.length co18] 27 (0, 0)) (by (with_reducible repeat first | refine blk_drewN ?_ _ | refine blk_drew ?_ | refine blk_alloc ?_ _); exact BK241.out) hb); have n5_ := Aside0.mk (below_step (by repeat (first | (with_reducible first | exact HB.out | apply below_alloc | apply pw_below_drewN | apply below_drew1 | refine below_set ?_ GE241.out) | exact HB.out)) hb); clear HO_13; clear HO_19; clear HO_242003; clear HO273; clear BK241; clear HB; have HO_13 := n0_; have HO_19 := n1_; have HO_242003 := n2_; have HO273 := n3_; have BK241 := n4_; have HB := n5_; clear n0_ n1_ n2_ n3_ n4_ n5_; (try clear hb); (try clear hb2); (try clear hk); (try clear hi); have hcz99_0 : w98.cell? ⟨gb241, 0, none⟩ = some (.int .i64 t235) := (blk_cell BK241.out 0).trans rfl; have hcz99_1 : w98.cell? ⟨gb241, 1, none⟩ = some (.int .i64 t236) := (blk_cell BK241.out 1).trans rfl; have hcz99_2 : w98.cell? ⟨gb241, 2, none⟩ = some (.int .i64 t237) := (blk_cell BK241.out 2).trans rfl; have hcz99_3 : w98.cell? ⟨gb241, 3, none⟩ = some (.slice Ao18 t238.length co18) := (blk_cell BK241.out 3).trans rfl; have hfz99_0 := blk_frozen BK241.out 0; have hfz99_1 := blk_frozen BK241.out 1; have hfz99_2 := blk_frozen BK241.out 2; have hfz99_3 := blk_frozen BK241.out 3; obtain ⟨Ao100, co100, eo100⟩ := Kd.R_slice HO273.out; subst eo100) | ((with_reducible refine gate_callee (f := 30) rfl ?_); refine goesL_ (some 168) rfl rfl Try.func30 (by kernel_rfl) rfl #[.agg #[.int .i64 t235, .int .i64 t236, .int .i64 t237, .slice Ao18 t238.length co18], .slice Ao100 t271.length co100] rfl (by (try simp only [List.map_toArray, List.map_cons, List.map_nil]); first | done | rfl | (simp only [List.length_drop, List.length_take]; rfl)) ?_; (with_reducible refine (flow_Value.calls kj29 t235 t236 t237 _ _ t238 _ _ t271 t277 t278 _ ?side1 ?side2 ?side3 ?side4 A91.out).mono ?_); (case side1 => repeat (first | exact (Kd.R_reads' HO_242003.out).2.2 | (with_reducible refine Kd.C_alloc ?_ _) | (with_reducible refine Kd.C_drewN ?_ _) | (with_reducible refine Kd.C_drew ?_))); (case side2 => exact (Kd.R_reads' HO_242003.out).2.1); (case side3 => repeat (first | exact (Kd.R_reads' HO273.out).2.2 | (with_reducible refine Kd.C_alloc ?_ _) | (with_reducible refine Kd.C_drewN ?_ _) | (with_reducible refine Kd.C_drew ?_))); (case side4 => exact (Kd.R_reads' HO273.out).2.1); rintro e w101 ⟨rfl, hb⟩; refine ⟨_, rfl, ?_⟩; have n0_ := Aside0.mk (Kd.R_below (by (with_reducible repeat first | apply Kd.R_alloc | apply Kd.R_drewN | apply Kd.R_drew); exact HO_13.out) hb); have n1_ := Aside0.mk (Kd.R_below (by (with_reducible repeat first | apply Kd.R_alloc | apply Kd.R_drewN | apply Kd.R_drew); exact HO_19.out) hb); have n2_ := Aside0.mk (Kd.R_below (by (with_reducible repeat first | apply Kd.R_alloc | apply Kd.R_drewN | apply Kd.R_drew); exact HO_242003.out) hb); have n3_ := Aside0.mk (Kd.R_below (by (with_reducible repeat first | apply Kd.R_alloc | apply Kd.R_drewN | apply Kd.R_drew); exact HO273.out) hb); have n4_ := Aside0.mk (blk_below (g := gb241) (o := .cells #[.int .i64 t235, .int .i64 t236, .int .i64 t237, .slice Ao18 t238.length co18] 27 (0, 0)) (by (with_reducible repeat first | refine blk_drewN ?_ _ | refine blk_drew ?_ | refine blk_alloc ?_ _); exact BK241.out) hb); have n5_ := Aside0.mk (below_step (by repeat (first | (with_reducible first | exact HB.out | apply below_alloc | apply pw_below_drewN | apply below_drew1 | refine below_set ?_ GE241.out) | exact HB.out)) hb); clear HO_13; clear HO_19; clear HO_242003; clear HO273; clear BK241; clear HB; have HO_13 := n0_; have HO_19 := n1_; have HO_242003 := n2_; have HO273 := n3_; have BK241 := n4_; have HB := n5_; clear n0_ n1_ n2_ n3_ n4_ n5_; (try clear hb); (try clear hb2); (try clear hk); (try clear hi); have hcz102_0 : w101.cell? ⟨gb241, 0, none⟩ = some (.int .i64 t235) := (blk_cell BK241.out 0).trans rfl; have hcz102_1 : w101.cell? ⟨gb241, 1, none⟩ = some (.int .i64 t236) := (blk_cell BK241.out 1).trans rfl; have hcz102_2 : w101.cell? ⟨gb241, 2, none⟩ = some (.int .i64 t237) := (blk_cell BK241.out 2).trans rfl; have hcz102_3 : w101.cell? ⟨gb241, 3, none⟩ = some (.slice Ao18 t238.length co18) := (blk_cell BK241.out 3).trans rfl; have hfz102_0 := blk_frozen BK241.out 0; have hfz102_1 := blk_frozen BK241.out 1; have hfz102_2 := blk_frozen BK241.out 2; have hfz102_3 := blk_frozen BK241.out 3) | ((with_reducible refine gate_callee (f := 28) rfl ?_); refine goesL_ (some 177) rfl rfl Try.func28 (by kernel_rfl) rfl #[.agg #[.int .i64 t235, .int .i64 t236, .int .i64 t237, .slice Ao18 t238.length co18], .slice Ao21 t242.length co21, .slice Ao95 x19_29.length co95, .int .i64 (wrap64 (x18_29 + 1))] rfl (by (try simp only [List.map_toArray, List.map_cons, List.map_nil]); first | done | rfl | (simp only [List.length_drop, List.length_take]; rfl)) ?_; (with_reducible refine (residual_Push.calls kj29 t235 t236 t237 _ _ t238 _ _ t242 _ _ x19_29 (wrap64 (x18_29 + 1)) t279 t282 _ ?side1 ?side2 ?side3 ?side4 ?side5 ?side6 A92.out).mono ?_); (case side1 => repeat (first | exact (Kd.R_reads' HO_242003.out).2.2 | (with_reducible refine Kd.C_alloc ?_ _) | (with_reducible refine Kd.C_drewN ?_ _) | (with_reducible refine Kd.C_drew ?_))); (case side2 => exact (Kd.R_reads' HO_242003.out).2.1); (case side3 => repeat (first | exact (Kd.R_reads' HO_13.out).2.2 | (with_reducible refine Kd.C_alloc ?_ _) | (with_reducible refine Kd.C_drewN ?_ _) | (with_reducible refine Kd.C_drew ?_))); (case side4 => exact (Kd.R_reads' HO_13.out).2.1); (case side5 => repeat (first | exact (Kd.R_reads' HO_19.out).2.2 | (with_reducible refine Kd.C_alloc ?_ _) | (with_reducible refine Kd.C_drewN ?_ _) | (with_reducible refine Kd.C_drew ?_))); (case side6 => exact (Kd.R_reads' HO_19.out).2.1); rintro e w103 ⟨v280, rfl, ho0, hb⟩; refine ⟨_, rfl, ?_⟩; have n0_ := Aside0.mk (Kd.R_elder' (by (with_reducible repeat first | apply Kd.R_alloc | apply Kd.R_drewN | apply Kd.R_drew); exact HO_13.out) (Kd.R_base ho0) hb); have n1_ := Aside0.mk (Kd.R_below (by (with_reducible repeat first | apply Kd.R_alloc | apply Kd.R_drewN | apply Kd.R_drew); exact HO_19.out) hb); have n2_ := Aside0.mk (Kd.R_below (by (with_reducible repeat first | apply Kd.R_alloc | apply Kd.R_drewN | apply Kd.R_drew); exact HO_242003.out) hb); have n3_ := Aside0.mk (Kd.R_elder' (by (with_reducible repeat first | apply Kd.R_alloc | apply Kd.R_drewN | apply Kd.R_drew); exact HO273.out) (Kd.R_base ho0) hb); have n4_ := Aside0.mk (Kd.R_lower (Kd.R_new' (Kd.R_new' ho0 (Kd.R_lt (by (with_reducible repeat first | apply Kd.R_alloc | apply Kd.R_drewN | apply Kd.R_drew); exact HO_13.out))) (Kd.R_lt (by (with_reducible repeat first | apply Kd.R_alloc | apply Kd.R_drewN | apply Kd.R_drew); exact HO273.out))) (below_size (by repeat (first | (with_reducible first | exact HB.out | apply below_alloc | apply pw_below_drewN | apply below_drew1 | refine below_set ?_ GE241.out) | exact HB.out)))); have n5_ := Aside0.mk (blk_below (g := gb241) (o := .cells #[.int .i64 t235, .int .i64 t236, .int .i64 t237, .slice Ao18 t238.length co18] 27 (0, 0)) (by (with_reducible repeat first | refine blk_drewN ?_ _ | refine blk_drew ?_ | refine blk_alloc ?_ _); exact BK241.out) hb); have n6_ := Aside0.mk (below_step (by repeat (first | (with_reducible first | exact HB.out | apply below_alloc | apply pw_below_drewN | apply below_drew1 | refine below_set ?_ GE241.out) | exact HB.out)) hb); clear HO_13; clear HO_19; clear HO_242003; clear HO273; clear BK241; clear HB; have HO_13 := n0_; have HO_19 := n1_; have HO_242003 := n2_; have HO273 := n3_; have HO281 := n4_; have BK241 := n5_; have HB := n6_; clear n0_ n1_ n2_ n3_ n4_ n5_ n6_; (try clear hb); (try clear hb2); (try clear hk); (try clear hi); (try clear ho0)))
            (try simp only [Act.put, List.setIfInBounds_toArray, List.set_cons_zero, List.set_cons_succ])
            go_cut [196] (fun v196 wc => ∃ (kq : Nat) (x196_92 : Bool), v196 = .bool x196_92 ∧ Aside0 (racewaylaw6_ResidualPushes.j5 kq t242 x18_29 x19_29 t271 x196_92 t235 t236 t237 t238 = some r) ∧ Aside0 (kq ≤ kj29) ∧ Aside0 (Kd.R (Kd.int .i64) 2 wc w.heap.size (fun k_ => some k_ ≠ ((.slice Ao100 t271.length co100) : Value).ownBlock) (.slice Ao21 t242.length co21) t242) ∧ Aside0 (Kd.R (Kd.int .i64) 3 wc w.heap.size (fun _ => True) (.slice Ao95 x19_29.length co95) x19_29) ∧ Aside0 (Kd.R (Kd.int .i64) 2 wc w.heap.size (fun k_ => some k_ ≠ ((.slice Ao21 t242.length co21) : Value).ownBlock) (.slice Ao100 t271.length co100) t271) ∧ Aside0 (Kd.R k49 49 wc w.heap.size (fun _ => True) (.slice Ao18 t238.length co18) t238) ∧ Aside0 (wc.heap[gb241]? = some (.cells #[.int .i64 t235, .int .i64 t236, .int .i64 t237, (.slice Ao18 t238.length co18)] 27 (0, 0))) ∧ Aside0 (Below w.heap.size w wc))
            case first =>
             (have H := HC93.out);(clear HC93)
             by_cases c104 : t274 = 0
             ·(rw [if_pos c104] at H);(have c104b0 : (t274 == 0) = true := beq_iff_eq.mpr c104);(have c104b1 : (t274 != 0) = false := bne_eq_false_iff_eq.mpr c104);(clear c104);((first | rw [c104b0] | (simp only [i64_w, i32_w]; rw [c104b0]) | skip))
              by_cases c105 : t278 = 0
              ·(rw [if_pos c105] at H);(have c105b0 : (t278 == 0) = true := beq_iff_eq.mpr c105);(have c105b1 : (t278 != 0) = false := bne_eq_false_iff_eq.mpr c105);(clear c105)
               by_cases c106 : t277 = (wrap64 (t275 + x18_29))
               ·(rw [if_pos c106] at H);(have c106b0 : (t277 == (wrap64 (t275 + x18_29))) = true := beq_iff_eq.mpr c106);(have c106b1 : (t277 != (wrap64 (t275 + x18_29))) = false := bne_eq_false_iff_eq.mpr c106);(clear c106)
                as_aux_lemma =>
                 (have H' := Aside0.mk H);(clear H)
                 go_wp2
                 go_meet
                 case rel => exact ⟨_, ((t282 != 9)), (by first | rfl | (simp; done) | (simp [*]; done)), H', ⟨by have := HJ6.out; have := HJ13.out; have := HJ29.out; first | omega | exact Nat.le_refl _⟩, ⟨by (with_reducible repeat first | apply Kd.R_alloc | apply Kd.R_drewN | apply Kd.R_drew); exact Kd.R_mono HO_13.out (fun _ hk => hk.1.2)⟩, ⟨by (with_reducible repeat first | apply Kd.R_alloc | apply Kd.R_drewN | apply Kd.R_drew); exact HO_19.out⟩, ⟨by (with_reducible repeat first | apply Kd.R_alloc | apply Kd.R_drewN | apply Kd.R_drew); exact Kd.R_mono HO273.out (fun _ hk => hk.1.2)⟩, ⟨by (with_reducible repeat first | apply Kd.R_alloc | apply Kd.R_drewN | apply Kd.R_drew); exact HO_242003.out⟩, ⟨by (with_reducible repeat first | refine blk_drewN ?_ _ | refine blk_drew ?_ | refine blk_alloc ?_ _); exact BK241.out⟩, ⟨by repeat (first | (with_reducible first | exact HB.out | apply below_alloc | apply pw_below_drewN | apply below_drew1 | refine below_set ?_ GE241.out) | exact HB.out)⟩⟩
               ·(rw [if_neg c106] at H);(have c106b0 : (t277 == (wrap64 (t275 + x18_29))) = false := beq_eq_false_iff_ne.mpr c106);(have c106b1 : (t277 != (wrap64 (t275 + x18_29))) = true := bne_iff_ne.mpr c106)
                as_aux_lemma =>
                 (have H' := Aside0.mk H);(clear H)
                 go_wp2
                 go_meet
                 case rel => exact ⟨_, (true), (by first | rfl | (simp; done) | (simp [*]; done)), H', ⟨by have := HJ6.out; have := HJ13.out; have := HJ29.out; first | omega | exact Nat.le_refl _⟩, ⟨by (with_reducible repeat first | apply Kd.R_alloc | apply Kd.R_drewN | apply Kd.R_drew); exact Kd.R_mono HO_13.out (fun _ hk => hk.1.2)⟩, ⟨by (with_reducible repeat first | apply Kd.R_alloc | apply Kd.R_drewN | apply Kd.R_drew); exact HO_19.out⟩, ⟨by (with_reducible repeat first | apply Kd.R_alloc | apply Kd.R_drewN | apply Kd.R_drew); exact Kd.R_mono HO273.out (fun _ hk => hk.1.2)⟩, ⟨by (with_reducible repeat first | apply Kd.R_alloc | apply Kd.R_drewN | apply Kd.R_drew); exact HO_242003.out⟩, ⟨by (with_reducible repeat first | refine blk_drewN ?_ _ | refine blk_drew ?_ | refine blk_alloc ?_ _); exact BK241.out⟩, ⟨by repeat (first | (with_reducible first | exact HB.out | apply below_alloc | apply pw_below_drewN | apply below_drew1 | refine below_set ?_ GE241.out) | exact HB.out)⟩⟩
              ·(rw [if_neg c105] at H);(have c105b0 : (t278 == 0) = false := beq_eq_false_iff_ne.mpr c105);(have c105b1 : (t278 != 0) = true := bne_iff_ne.mpr c105)
               as_aux_lemma =>
                (have H' := Aside0.mk H);(clear H)
                go_wp2
                go_meet
                case rel => exact ⟨_, (true), (by first | rfl | (simp; done) | (simp [*]; done)), H', ⟨by have := HJ6.out; have := HJ13.out; have := HJ29.out; first | omega | exact Nat.le_refl _⟩, ⟨by (with_reducible repeat first | apply Kd.R_alloc | apply Kd.R_drewN | apply Kd.R_drew); exact Kd.R_mono HO_13.out (fun _ hk => hk.1.2)⟩, ⟨by (with_reducible repeat first | apply Kd.R_alloc | apply Kd.R_drewN | apply Kd.R_drew); exact HO_19.out⟩, ⟨by (with_reducible repeat first | apply Kd.R_alloc | apply Kd.R_drewN | apply Kd.R_drew); exact Kd.R_mono HO273.out (fun _ hk => hk.1.2)⟩, ⟨by (with_reducible repeat first | apply Kd.R_alloc | apply Kd.R_drewN | apply Kd.R_drew); exact HO_242003.out⟩, ⟨by (with_reducible repeat first | refine blk_drewN ?_ _ | refine blk_drew ?_ | refine blk_alloc ?_ _); exact BK241.out⟩, ⟨by repeat (first | (with_reducible first | exact HB.out | apply below_alloc | apply pw_below_drewN | apply below_drew1 | refine below_set ?_ GE241.out) | exact HB.out)⟩⟩
             ·(rw [if_neg c104] at H);(have c104b0 : (t274 == 0) = false := beq_eq_false_iff_ne.mpr c104);(have c104b1 : (t274 != 0) = true := bne_iff_ne.mpr c104);((first | rw [c104b0] | (simp only [i64_w, i32_w]; rw [c104b0]) | skip))
              as_aux_lemma =>
               (have H' := Aside0.mk H);(clear H)
               go_wp2
               go_meet
               case rel => exact ⟨_, (true), (by first | rfl | (simp; done) | (simp [*]; done)), H', ⟨by have := HJ6.out; have := HJ13.out; have := HJ29.out; first | omega | exact Nat.le_refl _⟩, ⟨by (with_reducible repeat first | apply Kd.R_alloc | apply Kd.R_drewN | apply Kd.R_drew); exact Kd.R_mono HO_13.out (fun _ hk => hk.1.2)⟩, ⟨by (with_reducible repeat first | apply Kd.R_alloc | apply Kd.R_drewN | apply Kd.R_drew); exact HO_19.out⟩, ⟨by (with_reducible repeat first | apply Kd.R_alloc | apply Kd.R_drewN | apply Kd.R_drew); exact Kd.R_mono HO273.out (fun _ hk => hk.1.2)⟩, ⟨by (with_reducible repeat first | apply Kd.R_alloc | apply Kd.R_drewN | apply Kd.R_drew); exact HO_242003.out⟩, ⟨by (with_reducible repeat first | refine blk_drewN ?_ _ | refine blk_drew ?_ | refine blk_alloc ?_ _); exact BK241.out⟩, ⟨by repeat (first | (with_reducible first | exact HB.out | apply below_alloc | apply pw_below_drewN | apply below_drew1 | refine below_set ?_ GE241.out) | exact HB.out)⟩⟩
            case rest =>
             clear HC93
             try clear c1
             try clear c2
             try clear p2
             try clear q2
             try clear hx2
             try clear c3
             try clear c4
             try clear p4
             try clear q4
             try clear hx4
             try clear c5
             try clear q5
             try clear c6
             try clear p6
             try clear c7
             try clear c8
             try clear c9
             try clear c10
             try clear c14
             try clear c15
             try clear c16
             try clear c17
             try clear c18
             try clear c20
             try clear c21
             try clear c23
             try clear c23b0
             try clear c23b1
             try clear p25
             try clear q25
             try clear hx25
             try clear c26
             try clear p26
             try clear q26
             try clear hx26
             try clear c28
             try clear c28b0
             try clear c28b1
             try clear c29
             try clear c29b0
             try clear c29b1
             try clear c30
             try clear c36
             try clear c36b0
             try clear c38
             try clear c39
             try clear c39b0
             try clear c40
             try clear c40b0
             try clear p41
             try clear q41
             try clear hx41
             try clear hf41
             try clear c43
             try clear c43b0
             try clear c43b1
             try clear c43b2
             try clear c49
             try clear c49b0
             try clear c50
             try clear c50b0
             try clear c52
             try clear c52b0
             try clear c53
             try clear c53b0
             try clear c55
             try clear c55b0
             try clear c56
             try clear c56b0
             try clear q57
             try clear c58
             try clear p64
             try clear c66
             try clear c66b0
             try clear c67
             try clear c67b0
             try clear c68
             try clear c68b0
             try clear c68b1
             try clear c77
             try clear c88
             try clear c88b0
             try clear c88b1
             try clear c104
             try clear c104b0
             try clear c104b1
             try clear c105
             try clear c105b0
             try clear c105b1
             try clear c106
             try clear c106b0
             try clear c106b1
             try clear hcz102_0
             try clear hcz102_1
             try clear hcz102_2
             try clear hcz102_3
             try clear hcz17_0
             try clear hcz17_1
             try clear hcz17_2
             try clear hcz17_3
             try clear hcz20_0
             try clear hcz20_1
             try clear hcz20_2
             try clear hcz20_3
             try clear hcz25_0
             try clear hcz25_1
             try clear hcz25_2
             try clear hcz25_3
             try clear hcz31_0
             try clear hcz31_1
             try clear hcz31_2
             try clear hcz31_3
             try clear hcz34_0
             try clear hcz34_1
             try clear hcz34_2
             try clear hcz34_3
             try clear hcz37_0
             try clear hcz37_1
             try clear hcz37_2
             try clear hcz37_3
             try clear hcz46_0
             try clear hcz46_1
             try clear hcz46_2
             try clear hcz46_3
             try clear hcz61_0
             try clear hcz61_1
             try clear hcz61_2
             try clear hcz61_3
             try clear hcz64_0
             try clear hcz64_1
             try clear hcz64_2
             try clear hcz64_3
             try clear hcz71_0
             try clear hcz71_1
             try clear hcz71_2
             try clear hcz71_3
             try clear hcz74_0
             try clear hcz74_1
             try clear hcz74_2
             try clear hcz74_3
             try clear hcz81_0
             try clear hcz81_1
             try clear hcz81_2
             try clear hcz81_3
             try clear hcz84_0
             try clear hcz84_1
             try clear hcz84_2
             try clear hcz84_3
             try clear hcz94_0
             try clear hcz94_1
             try clear hcz94_2
             try clear hcz94_3
             try clear hcz97_0
             try clear hcz97_1
             try clear hcz97_2
             try clear hcz97_3
             try clear hcz99_0
             try clear hcz99_1
             try clear hcz99_2
             try clear hcz99_3
             try clear hfz102_0
             try clear hfz102_1
             try clear hfz102_2
             try clear hfz102_3
             try clear hfz17_0
             try clear hfz17_1
             try clear hfz17_2
             try clear hfz17_3
             try clear hfz20_0
             try clear hfz20_1
             try clear hfz20_2
             try clear hfz20_3
             try clear hfz25_0
             try clear hfz25_1
             try clear hfz25_2
             try clear hfz25_3
             try clear hfz31_0
             try clear hfz31_1
             try clear hfz31_2
             try clear hfz31_3
             try clear hfz34_0
             try clear hfz34_1
             try clear hfz34_2
             try clear hfz34_3
             try clear hfz37_0
             try clear hfz37_1
             try clear hfz37_2
             try clear hfz37_3
             try clear hfz46_0
             try clear hfz46_1
             try clear hfz46_2
             try clear hfz46_3
             try clear hfz61_0
             try clear hfz61_1
             try clear hfz61_2
             try clear hfz61_3
             try clear hfz64_0
             try clear hfz64_1
             try clear hfz64_2
             try clear hfz64_3
             try clear hfz71_0
             try clear hfz71_1
             try clear hfz71_2
             try clear hfz71_3
             try clear hfz74_0
             try clear hfz74_1
             try clear hfz74_2
             try clear hfz74_3
             try clear hfz81_0
             try clear hfz81_1
             try clear hfz81_2
             try clear hfz81_3
             try clear hfz84_0
             try clear hfz84_1
             try clear hfz84_2
             try clear hfz84_3
             try clear hfz94_0
             try clear hfz94_1
             try clear hfz94_2
             try clear hfz94_3
             try clear hfz97_0
             try clear hfz97_1
             try clear hfz97_2
             try clear hfz97_3
             try clear hfz99_0
             try clear hfz99_1
             try clear hfz99_2
             try clear hfz99_3
             try clear hx256_0
             try clear hx258_0
             try clear hx261_0
             try clear hx262_0
             try clear hx266_0
             try clear hx41_0
             try clear p2
             try clear p25
             try clear p256
             try clear p258
             try clear p26
             try clear p261
             try clear p262
             try clear p266
             try clear p4
             try clear p41
             try clear p6
             try clear p64
             try clear q2
             try clear q25
             try clear q256
             try clear q258
             try clear q26
             try clear q261
             try clear q262
             try clear q266
             try clear q4
             try clear q41
             try clear q5
             try clear q57
             obtain ⟨kq, x196_92, rfl, HA, HJ92, HO_13, HO_19, HO_27, HO_242003, BK241, HB⟩ := hcut
             cases kq with
             | zero => exact absurd HA.out (by simp [racewaylaw6_ResidualPushes.j5])
             | succ kj92 =>
              (have H := HA.out);(clear HA);(simp only [racewaylaw6_ResidualPushes.j5] at H)
              by_cases c107 : x196_92 = true
              ·(subst c107);(have H1 : (some false) = some r := by rw [if_pos rfl] at H; exact H);(clear H);(have H := H1);(clear H1);(exact absurd ((Option.some.inj H).trans hrT_.out) (by simp))
              ·(replace c107 := Bool.eq_false_iff.mpr c107);(subst c107);(have H1 : (racewaylaw6_ResidualPushes.l1 kj92 t242 x18_29 x19_29 t271 ([] : List Int) (wrap64 ((x19_29.length : Int) - 1)) t235 t237 t236 t238) = some r := by rw [if_neg (show ¬ (false = true) by decide)] at H; exact H);(clear H);(have H := H1);(clear H1);(have H' := Aside0.mk H);(clear H);(have hcz108_0 : wc.cell? ⟨gb241, 0, none⟩ = some (.int .i64 t235) := (blk_cell BK241.out 0).trans rfl);(have hcz108_1 : wc.cell? ⟨gb241, 1, none⟩ = some (.int .i64 t236) := (blk_cell BK241.out 1).trans rfl);(have hcz108_2 : wc.cell? ⟨gb241, 2, none⟩ = some (.int .i64 t237) := (blk_cell BK241.out 2).trans rfl);(have hcz108_3 : wc.cell? ⟨gb241, 3, none⟩ = some (.slice Ao18 t238.length co18) := (blk_cell BK241.out 3).trans rfl);(have hfz108_0 := blk_frozen BK241.out 0);(have hfz108_1 := blk_frozen BK241.out 1);(have hfz108_2 := blk_frozen BK241.out 2);(have hfz108_3 := blk_frozen BK241.out 3)
               go_wp2_with (first | ((with_reducible refine gate_dst (N := 35) rfl ?_); (try (refine gate_guard (by rfl) ?_; dsimp only)); refine box_event ?hg (N := 35) ?hd (cs := #[.int .i64 0, .int .i64 0, .int .i64 0, .slice none 0 0]) (t := 27) ?hr ?_; (case hd => rfl); (case hg => rfl); (case hr => first | (go_simp; done) | (go_simp; rfl)); intro gb283 hg w109 hbox hb; have n0_ := Aside0.mk (Kd.R_below (by (with_reducible repeat first | apply Kd.R_alloc | apply Kd.R_drewN | apply Kd.R_drew); exact HO_13.out) hb); have n1_ := Aside0.mk (Kd.R_below (by (with_reducible repeat first | apply Kd.R_alloc | apply Kd.R_drewN | apply Kd.R_drew); exact HO_19.out) hb); have n2_ := Aside0.mk (Kd.R_below (by (with_reducible repeat first | apply Kd.R_alloc | apply Kd.R_drewN | apply Kd.R_drew); exact HO_27.out) hb); have n3_ := Aside0.mk (Kd.R_below (by (with_reducible repeat first | apply Kd.R_alloc | apply Kd.R_drewN | apply Kd.R_drew); exact HO_242003.out) hb); have n4_ := Aside0.mk (blk_below (g := gb241) (o := .cells #[.int .i64 t235, .int .i64 t236, .int .i64 t237, .slice Ao18 t238.length co18] 27 (0, 0)) (by (with_reducible repeat first | refine blk_drewN ?_ _ | refine blk_drew ?_ | refine blk_alloc ?_ _); exact BK241.out) hb); have n5_ := Aside0.mk (below_step (by repeat (first | (with_reducible first | exact HB.out | apply below_alloc | apply pw_below_drewN | apply below_drew1 | refine below_set ?_ GE241.out) | exact HB.out)) hb); have n6_ := Aside0.mk (hbox); have n7_ := Aside0.mk ((by rw [hg]; exact (below_size (by repeat (first | (with_reducible first | exact HB.out | apply below_alloc | apply pw_below_drewN | apply below_drew1 | refine below_set ?_ GE241.out) | exact HB.out))) : w.heap.size ≤ gb283)); have n8_ := Aside0.mk ((by rw [hg]; exact (below_size (by repeat (first | (with_reducible first | exact HB.out | apply below_alloc | apply pw_below_drewN | apply below_drew1 | refine below_set ?_ GE241.out) | exact HB.out))) : w.heap.size ≤ gb283)); have n9_ := Aside0.mk ((by rw [hg]; exact Nat.ne_of_lt (blk_lt (g := gb241) (o := .cells #[.int .i64 t235, .int .i64 t236, .int .i64 t237, .slice Ao18 t238.length co18] 27 (0, 0)) (by (with_reducible repeat first | refine blk_drewN ?_ _ | refine blk_drew ?_ | refine blk_alloc ?_ _); exact BK241.out)) : gb241 ≠ gb283)); have n10_ := Aside0.mk ((by rw [hg]; exact Nat.ne_of_gt (blk_lt (g := gb241) (o := .cells #[.int .i64 t235, .int .i64 t236, .int .i64 t237, .slice Ao18 t238.length co18] 27 (0, 0)) (by (with_reducible repeat first | refine blk_drewN ?_ _ | refine blk_drew ?_ | refine blk_alloc ?_ _); exact BK241.out)) : gb283 ≠ gb241)); clear HO_13; clear HO_19; clear HO_27; clear HO_242003; clear BK241; clear HB; have HO_13 := n0_; have HO_19 := n1_; have HO_27 := n2_; have HO_242003 := n3_; have BK241 := n4_; have HB := n5_; have BK283 := n6_; have GW283 := n7_; have GE283 := n8_; have NB241_283 := n9_; have NB283_241 := n10_; clear n0_ n1_ n2_ n3_ n4_ n5_ n6_ n7_ n8_ n9_ n10_; clear hb hbox hg; have hnb110 := NB283_241.out; have hnc110 := NB241_283.out; have hcz111_0 : w109.cell? ⟨gb283, 0, none⟩ = some (.int .i64 0) := (blk_cell BK283.out 0).trans rfl; have hcz111_1 : w109.cell? ⟨gb283, 1, none⟩ = some (.int .i64 0) := (blk_cell BK283.out 1).trans rfl; have hcz111_2 : w109.cell? ⟨gb283, 2, none⟩ = some (.int .i64 0) := (blk_cell BK283.out 2).trans rfl; have hcz111_3 : w109.cell? ⟨gb283, 3, none⟩ = some (.slice none 0 0) := (blk_cell BK283.out 3).trans rfl; have hfz111_0 := blk_frozen BK283.out 0; have hfz111_1 := blk_frozen BK283.out 1; have hfz111_2 := blk_frozen BK283.out 2; have hfz111_3 := blk_frozen BK283.out 3))
               go_loopg [36, 37] kj92 (fun kq v36 v37 w' => ∃ (x36_5 : List Int) (x37_5 : Int), v37 = .int .i64 x37_5 ∧ Aside0 (racewaylaw6_ResidualPushes.l1 kq t242 x18_29 x19_29 t271 x36_5 x37_5 t235 t237 t236 t238 = some r) ∧ Aside0 (kq ≤ kj92) ∧ Aside0 (Kd.R (Kd.int .i64) 2 w' w.heap.size (fun k_ => some k_ ≠ ((.slice Ao100 t271.length co100) : Value).ownBlock) (.slice Ao21 t242.length co21) t242) ∧ Aside0 (Kd.R (Kd.int .i64) 3 w' w.heap.size (fun k_ => some k_ ≠ (v36 : Value).ownBlock) (.slice Ao95 x19_29.length co95) x19_29) ∧ Aside0 (Kd.R (Kd.int .i64) 2 w' w.heap.size (fun k_ => some k_ ≠ ((.slice Ao21 t242.length co21) : Value).ownBlock) (.slice Ao100 t271.length co100) t271) ∧ Aside0 (Kd.R (Kd.int .i64) 3 w' w.heap.size (fun k_ => some k_ ≠ ((.slice Ao95 x19_29.length co95) : Value).ownBlock) v36 x36_5) ∧ Aside0 (Kd.R k49 49 w' w.heap.size (fun _ => True) (.slice Ao18 t238.length co18) t238) ∧ Aside0 (Kd.R k49 49 w' w.heap.size (fun _ => True) (.slice Ao18 t238.length co18) t238) ∧ Aside0 (w'.heap[gb241]? = some (.cells #[.int .i64 t235, .int .i64 t236, .int .i64 t237, (.slice Ao18 t238.length co18)] 27 (0, 0))) ∧ Aside0 (w'.heap[gb283]? = some (.cells #[.int .i64 t235, .int .i64 t237, .int .i64 t236, (.slice Ao18 t238.length co18)] 27 (0, 0))) ∧ Aside0 (Below w.heap.size w w'))
               case atStart => exact ⟨(([] : List Int)), (wrap64 ((x19_29.length : Int) - 1)), (by first | rfl | (simp; done) | (simp [*]; done)), H', ⟨Nat.le_refl _⟩, ⟨by (with_reducible repeat first | apply Kd.R_alloc | apply Kd.R_drewN | apply Kd.R_drew); exact Kd.R_mono (Kd.R_far (p := ⟨gb283, 3, none⟩) (Kd.R_far (p := ⟨gb283, 2, none⟩) (Kd.R_far (p := ⟨gb283, 1, none⟩) (Kd.R_far (p := ⟨gb283, 0, none⟩) (Kd.R_types HO_13.out BK283.out (by decide)) (fun _ hk => hk.2) (.int .i64 t235)) (fun _ hk => hk.2) (.int .i64 t237)) (fun _ hk => hk.2) (.int .i64 t236)) (fun _ hk => hk.2) (.slice Ao18 t238.length co18)) (fun _ hk => hk.1)⟩, ⟨by (with_reducible repeat first | apply Kd.R_alloc | apply Kd.R_drewN | apply Kd.R_drew); exact Kd.R_mono (Kd.R_far (p := ⟨gb283, 3, none⟩) (Kd.R_far (p := ⟨gb283, 2, none⟩) (Kd.R_far (p := ⟨gb283, 1, none⟩) (Kd.R_far (p := ⟨gb283, 0, none⟩) (Kd.R_types HO_19.out BK283.out (by decide)) (fun _ hk => hk.2) (.int .i64 t235)) (fun _ hk => hk.2) (.int .i64 t237)) (fun _ hk => hk.2) (.int .i64 t236)) (fun _ hk => hk.2) (.slice Ao18 t238.length co18)) (fun _ hk => (by simp [Value.ownBlock]))⟩, ⟨by (with_reducible repeat first | apply Kd.R_alloc | apply Kd.R_drewN | apply Kd.R_drew); exact Kd.R_mono (Kd.R_far (p := ⟨gb283, 3, none⟩) (Kd.R_far (p := ⟨gb283, 2, none⟩) (Kd.R_far (p := ⟨gb283, 1, none⟩) (Kd.R_far (p := ⟨gb283, 0, none⟩) (Kd.R_types HO_27.out BK283.out (by decide)) (fun _ hk => hk.2) (.int .i64 t235)) (fun _ hk => hk.2) (.int .i64 t237)) (fun _ hk => hk.2) (.int .i64 t236)) (fun _ hk => hk.2) (.slice Ao18 t238.length co18)) (fun _ hk => hk.1)⟩, ⟨by first | exact Kd.R_nil _ _ _ _ _ | exact Kd.N_nil _ _ _ _ _ | exact Kd.V_nil _ _ _ _ _ | exact Kd.Q_nil _ _ _ _ _ | exact Kd.S_nil _ _ _ _ _⟩, ⟨by (with_reducible repeat first | apply Kd.R_alloc | apply Kd.R_drewN | apply Kd.R_drew); exact Kd.R_mono (Kd.R_far (p := ⟨gb283, 3, none⟩) (Kd.R_far (p := ⟨gb283, 2, none⟩) (Kd.R_far (p := ⟨gb283, 1, none⟩) (Kd.R_far (p := ⟨gb283, 0, none⟩) (Kd.R_types HO_242003.out BK283.out (by decide)) (fun _ hk => hk.2) (.int .i64 t235)) (fun _ hk => hk.2) (.int .i64 t237)) (fun _ hk => hk.2) (.int .i64 t236)) (fun _ hk => hk.2) (.slice Ao18 t238.length co18)) (fun _ hk => trivial)⟩, ⟨by (with_reducible repeat first | apply Kd.R_alloc | apply Kd.R_drewN | apply Kd.R_drew); exact Kd.R_mono (Kd.R_far (p := ⟨gb283, 3, none⟩) (Kd.R_far (p := ⟨gb283, 2, none⟩) (Kd.R_far (p := ⟨gb283, 1, none⟩) (Kd.R_far (p := ⟨gb283, 0, none⟩) (Kd.R_types HO_242003.out BK283.out (by decide)) (fun _ hk => hk.2) (.int .i64 t235)) (fun _ hk => hk.2) (.int .i64 t237)) (fun _ hk => hk.2) (.int .i64 t236)) (fun _ hk => hk.2) (.slice Ao18 t238.length co18)) (fun _ hk => trivial)⟩, ⟨by (with_reducible repeat first | refine blk_drewN ?_ _ | refine blk_drew ?_ | refine blk_alloc ?_ _); refine blk_far ?_ NB241_283.out _; (with_reducible repeat first | refine blk_drewN ?_ _ | refine blk_drew ?_ | refine blk_alloc ?_ _); refine blk_far ?_ NB241_283.out _; (with_reducible repeat first | refine blk_drewN ?_ _ | refine blk_drew ?_ | refine blk_alloc ?_ _); refine blk_far ?_ NB241_283.out _; (with_reducible repeat first | refine blk_drewN ?_ _ | refine blk_drew ?_ | refine blk_alloc ?_ _); refine blk_far ?_ NB241_283.out _; (with_reducible repeat first | refine blk_drewN ?_ _ | refine blk_drew ?_ | refine blk_alloc ?_ _); exact BK241.out⟩, ⟨by (with_reducible repeat first | refine blk_drewN ?_ _ | refine blk_drew ?_ | refine blk_alloc ?_ _); refine blk_put (cs := #[.int .i64 t235, .int .i64 t237, .int .i64 t236, .slice none 0 0]) ?_ 3 _ rfl; (with_reducible repeat first | refine blk_drewN ?_ _ | refine blk_drew ?_ | refine blk_alloc ?_ _); refine blk_put (cs := #[.int .i64 t235, .int .i64 t237, .int .i64 0, .slice none 0 0]) ?_ 2 _ rfl; (with_reducible repeat first | refine blk_drewN ?_ _ | refine blk_drew ?_ | refine blk_alloc ?_ _); refine blk_put (cs := #[.int .i64 t235, .int .i64 0, .int .i64 0, .slice none 0 0]) ?_ 1 _ rfl; (with_reducible repeat first | refine blk_drewN ?_ _ | refine blk_drew ?_ | refine blk_alloc ?_ _); refine blk_put (cs := #[.int .i64 0, .int .i64 0, .int .i64 0, .slice none 0 0]) ?_ 0 _ rfl; (with_reducible repeat first | refine blk_drewN ?_ _ | refine blk_drew ?_ | refine blk_alloc ?_ _); exact BK283.out⟩, ⟨by repeat (first | (with_reducible first | exact HB.out | apply below_alloc | apply pw_below_drewN | apply below_drew1 | refine below_set ?_ GE241.out | refine below_set ?_ GE283.out) | exact HB.out)⟩⟩
               case round =>
                clear H'
                try clear c1
                try clear c2
                try clear p2
                try clear q2
                try clear hx2
                try clear c3
                try clear c4
                try clear p4
                try clear q4
                try clear hx4
                try clear c5
                try clear q5
                try clear c6
                try clear p6
                try clear c7
                try clear c8
                try clear c9
                try clear c10
                try clear c11
                try clear c14
                try clear c15
                try clear c16
                try clear c17
                try clear c18
                try clear c20
                try clear c21
                try clear c23
                try clear c23b0
                try clear c23b1
                try clear p25
                try clear q25
                try clear hx25
                try clear c26
                try clear p26
                try clear q26
                try clear hx26
                try clear c28
                try clear c28b0
                try clear c28b1
                try clear c29
                try clear c29b0
                try clear c29b1
                try clear c30
                try clear c36
                try clear c36b0
                try clear c38
                try clear c39
                try clear c39b0
                try clear c40
                try clear c40b0
                try clear p41
                try clear q41
                try clear hx41
                try clear hf41
                try clear c43
                try clear c43b0
                try clear c43b1
                try clear c43b2
                try clear c49
                try clear c49b0
                try clear c50
                try clear c50b0
                try clear c52
                try clear c52b0
                try clear c53
                try clear c53b0
                try clear c55
                try clear c55b0
                try clear c56
                try clear c56b0
                try clear q57
                try clear c58
                try clear p64
                try clear c66
                try clear c66b0
                try clear c67
                try clear c67b0
                try clear c68
                try clear c68b0
                try clear c68b1
                try clear c77
                try clear c88
                try clear c88b0
                try clear c88b1
                try clear c104
                try clear c104b0
                try clear c104b1
                try clear c105
                try clear c105b0
                try clear c105b1
                try clear c106
                try clear c106b0
                try clear c106b1
                try clear c107
                try clear c110
                try clear hcz102_0
                try clear hcz102_1
                try clear hcz102_2
                try clear hcz102_3
                try clear hcz108_0
                try clear hcz108_1
                try clear hcz108_2
                try clear hcz108_3
                try clear hcz111_0
                try clear hcz111_1
                try clear hcz111_2
                try clear hcz111_3
                try clear hcz17_0
                try clear hcz17_1
                try clear hcz17_2
                try clear hcz17_3
                try clear hcz20_0
                try clear hcz20_1
                try clear hcz20_2
                try clear hcz20_3
                try clear hcz25_0
                try clear hcz25_1
                try clear hcz25_2
                try clear hcz25_3
                try clear hcz31_0
                try clear hcz31_1
                try clear hcz31_2
                try clear hcz31_3
                try clear hcz34_0
                try clear hcz34_1
                try clear hcz34_2
                try clear hcz34_3
                try clear hcz37_0
                try clear hcz37_1
                try clear hcz37_2
                try clear hcz37_3
                try clear hcz46_0
                try clear hcz46_1
                try clear hcz46_2
                try clear hcz46_3
                try clear hcz61_0
                try clear hcz61_1
                try clear hcz61_2
                try clear hcz61_3
                try clear hcz64_0
                try clear hcz64_1
                try clear hcz64_2
                try clear hcz64_3
                try clear hcz71_0
                try clear hcz71_1
                try clear hcz71_2
                try clear hcz71_3
                try clear hcz74_0
                try clear hcz74_1
                try clear hcz74_2
                try clear hcz74_3
                try clear hcz81_0
                try clear hcz81_1
                try clear hcz81_2
                try clear hcz81_3
                try clear hcz84_0
                try clear hcz84_1
                try clear hcz84_2
                try clear hcz84_3
                try clear hcz94_0
                try clear hcz94_1
                try clear hcz94_2
                try clear hcz94_3
                try clear hcz97_0
                try clear hcz97_1
                try clear hcz97_2
                try clear hcz97_3
                try clear hcz99_0
                try clear hcz99_1
                try clear hcz99_2
                try clear hcz99_3
                try clear hfz102_0
                try clear hfz102_1
                try clear hfz102_2
                try clear hfz102_3
                try clear hfz108_0
                try clear hfz108_1
                try clear hfz108_2
                try clear hfz108_3
                try clear hfz111_0
                try clear hfz111_1
                try clear hfz111_2
                try clear hfz111_3
                try clear hfz17_0
                try clear hfz17_1
                try clear hfz17_2
                try clear hfz17_3
                try clear hfz20_0
                try clear hfz20_1
                try clear hfz20_2
                try clear hfz20_3
                try clear hfz25_0
                try clear hfz25_1
                try clear hfz25_2
                try clear hfz25_3
                try clear hfz31_0
                try clear hfz31_1
                try clear hfz31_2
                try clear hfz31_3
                try clear hfz34_0
                try clear hfz34_1
                try clear hfz34_2
                try clear hfz34_3
                try clear hfz37_0
                try clear hfz37_1
                try clear hfz37_2
                try clear hfz37_3
                try clear hfz46_0
                try clear hfz46_1
                try clear hfz46_2
                try clear hfz46_3
                try clear hfz61_0
                try clear hfz61_1
                try clear hfz61_2
                try clear hfz61_3
                try clear hfz64_0
                try clear hfz64_1
                try clear hfz64_2
                try clear hfz64_3
                try clear hfz71_0
                try clear hfz71_1
                try clear hfz71_2
                try clear hfz71_3
                try clear hfz74_0
                try clear hfz74_1
                try clear hfz74_2
                try clear hfz74_3
                try clear hfz81_0
                try clear hfz81_1
                try clear hfz81_2
                try clear hfz81_3
                try clear hfz84_0
                try clear hfz84_1
                try clear hfz84_2
                try clear hfz84_3
                try clear hfz94_0
                try clear hfz94_1
                try clear hfz94_2
                try clear hfz94_3
                try clear hfz97_0
                try clear hfz97_1
                try clear hfz97_2
                try clear hfz97_3
                try clear hfz99_0
                try clear hfz99_1
                try clear hfz99_2
                try clear hfz99_3
                try clear hx256_0
                try clear hx258_0
                try clear hx261_0
                try clear hx262_0
                try clear hx266_0
                try clear hx41_0
                try clear p2
                try clear p25
                try clear p256
                try clear p258
                try clear p26
                try clear p261
                try clear p262
                try clear p266
                try clear p4
                try clear p41
                try clear p6
                try clear p64
                try clear q2
                try clear q25
                try clear q256
                try clear q258
                try clear q26
                try clear q261
                try clear q262
                try clear q266
                try clear q4
                try clear q41
                try clear q5
                try clear q57
                obtain ⟨x36_5, x37_5, rfl, HA, HK5, HO_13, HO_19, HO_27, HO_36, HO_242003, HO_284003, BK241, BK283, HB⟩ := hrel
                cases gk with
                | zero => exact absurd HA.out (by simp [racewaylaw6_ResidualPushes.l1])
                | succ k5 =>
                 (have H := HA.out);(clear HA);(simp only [racewaylaw6_ResidualPushes.l1] at H)
                 by_cases c112 : x37_5 ≥ 0
                 ·(rw [if_pos c112] at H);(have c112b0 : decide (0 ≤ x37_5) = true := decide_eq_true c112);(clear c112)
                  by_cases c113 : 0 ≤ x37_5
                  ·(rw [if_pos c113] at H);(have c113b0 : decide (0 ≤ x37_5) = true := decide_eq_true c113);(clear c113)
                   by_cases c114 : x37_5 < (x19_29.length : Int)
                   ·(rw [if_pos c114] at H);(have c114b0 : decide (x37_5 < (x19_29.length : Int)) = true := decide_eq_true c114);(clear c114)
                    by_cases c115 : x36_5.length < 17592186044416
                    ·(rw [if_pos c115] at H);(have LMc115 := Aside0.mk c115);(clear c115);(obtain ⟨y285, hy285⟩ : ∃ y_ : List Int, y_ = (x36_5 ++ [Go.bits .xor .i64 (rd x19_29 x37_5) 1]) := ⟨_, rfl⟩);(replace H : (racewaylaw6_ResidualPushes.l1 k5 t242 x18_29 x19_29 t271 y285 (wrap64 (x37_5 - 1)) t235 t237 t236 t238) = some r := by first | (rw [hy285]; with_reducible exact H) | (have H2_ := (Option.bind_some _ _).symm.trans H; rw [hy285]; with_reducible exact H2_) | (have H2_ := (Option.bind_some _ _).symm.trans H; with_reducible exact H2_) | with_reducible exact H | (rw [hy285]; exact H) | exact H);(have Ny285 := Aside0.mk hy285);(clear hy285)
                     as_aux_lemma =>
                      (have H' := Aside0.mk H);(clear H);(have p284 : 0 ≤ (x37_5 : Int) := of_decide_eq_true (by first | (with_reducible assumption) | assumption));(have q284 : x37_5 < (x19_29.length : Int) := of_decide_eq_true (by first | (with_reducible assumption) | assumption));(obtain ⟨ad284, e284, hx284_0⟩ := Kd.at_int (Kd.R_reads' HO_19.out).2.2 x37_5 p284 q284);(cases e284);(replace p284 := eq_true p284);(replace q284 := eq_true q284)
                      go_wp2_with (first | ((with_reducible refine gate_builtin (b := .append) (xs := #[.tmp 213, .tmp 219]) rfl ?_); (try (refine gate_guard (by rfl) ?_; dsimp only)); at_builtin; refine Kd.R_append (Kd.int .i64) (w0 := w) w.heap.size rfl (.tmp 213) (.tmp 219) 23 3 (.int .i64 0) 8 rfl Try.underlying23 info3 rfl (by decide) (by omega) u36 x36_5 (Go.bits .xor .i64 (rd x19_29 x37_5) 1) [.int .i64 (Go.bits .xor .i64 (rd x19_29 x37_5) 1)] (fun k_ => some k_ ≠ (.slice (some ad284) x19_29.length co95 : Value).ownBlock) (fun _ => False) rfl rfl ?aP (fun _ hk => hk.elim) ?aF ?aO ?aB ?aS ?aL ?_; (case aP => exact rfl); (case aB => exact (by repeat (first | (with_reducible first | exact HB.out | apply below_alloc | apply pw_below_drewN | apply below_drew1 | refine below_set ?_ GE241.out | refine below_set ?_ GE283.out) | exact HB.out))); (case aF => exact (fun k_ hk => Kd.fresh' (Kd.R_lt (by (with_reducible repeat first | apply Kd.R_alloc | apply Kd.R_drewN | apply Kd.R_drew); exact HO_19.out)) k_ hk)); (case aO => exact (by (with_reducible repeat first | apply Kd.R_alloc | apply Kd.R_drewN | apply Kd.R_drew); exact HO_36.out)); (case aS => exact (below_size (by repeat (first | (with_reducible first | exact HB.out | apply below_alloc | apply pw_below_drewN | apply below_drew1 | refine below_set ?_ GE241.out | refine below_set ?_ GE283.out) | exact HB.out)))); (case aL => have := LMc115.out; omega); intro v286 w116 ho hb hg hat; rw [← Ny285.out] at ho; have n0_ := Aside0.mk (Kd.R_over' (by (with_reducible repeat first | apply Kd.R_alloc | apply Kd.R_drewN | apply Kd.R_drew); exact HO_13.out) (Kd.R_typed (by (with_reducible repeat first | apply Kd.R_alloc | apply Kd.R_drewN | apply Kd.R_drew); exact HO_36.out)) (by decide) hg); have n1_ := Aside0.mk (Kd.R_after (ok := (fun _ => True)) (by (with_reducible repeat first | apply Kd.R_alloc | apply Kd.R_drewN | apply Kd.R_drew); exact Kd.R_mono HO_19.out (fun _ hk => ⟨trivial, hk⟩)) hg hat); have n2_ := Aside0.mk (Kd.R_over' (by (with_reducible repeat first | apply Kd.R_alloc | apply Kd.R_drewN | apply Kd.R_drew); exact HO_27.out) (Kd.R_typed (by (with_reducible repeat first | apply Kd.R_alloc | apply Kd.R_drewN | apply Kd.R_drew); exact HO_36.out)) (by decide) hg); have n3_ := Aside0.mk (Kd.R_over' (by (with_reducible repeat first | apply Kd.R_alloc | apply Kd.R_drewN | apply Kd.R_drew); exact HO_242003.out) (Kd.R_typed (by (with_reducible repeat first | apply Kd.R_alloc | apply Kd.R_drewN | apply Kd.R_drew); exact HO_36.out)) (by decide) hg); have n4_ := Aside0.mk (Kd.R_over' (by (with_reducible repeat first | apply Kd.R_alloc | apply Kd.R_drewN | apply Kd.R_drew); exact HO_284003.out) (Kd.R_typed (by (with_reducible repeat first | apply Kd.R_alloc | apply Kd.R_drewN | apply Kd.R_drew); exact HO_36.out)) (by decide) hg); have n5_ := Aside0.mk (blk_grown (g := gb241) (o := .cells #[.int .i64 t235, .int .i64 t236, .int .i64 t237, .slice Ao18 t238.length co18] 27 (0, 0)) (by (with_reducible repeat first | refine blk_drewN ?_ _ | refine blk_drew ?_ | refine blk_alloc ?_ _); exact BK241.out) hg (Kd.R_ne HO_36.out BK241.out (by decide))); have n6_ := Aside0.mk (blk_grown (g := gb283) (o := .cells #[.int .i64 t235, .int .i64 t237, .int .i64 t236, .slice Ao18 t238.length co18] 27 (0, 0)) (by (with_reducible repeat first | refine blk_drewN ?_ _ | refine blk_drew ?_ | refine blk_alloc ?_ _); exact BK283.out) hg (Kd.R_ne HO_36.out BK283.out (by decide))); have n7_ := Aside0.mk (hb); have n8_ := Aside0.mk (ho); clear HO_13; clear HO_19; clear HO_27; clear HO_242003; clear HO_284003; clear BK241; clear BK283; clear HB; clear HO_36; have HO_13 := n0_; have HO_19 := n1_; have HO_27 := n2_; have HO_242003 := n3_; have HO_284003 := n4_; have BK241 := n5_; have BK283 := n6_; have HB := n7_; have HO287 := n8_; clear n0_ n1_ n2_ n3_ n4_ n5_ n6_ n7_ n8_; clear ho hb hg hat))
                      go_roundg k5
                      case measure => have := HJ6.out; have := HJ13.out; have := HJ29.out; have := HJ92.out; have := HK5.out; omega
                      case rel => exact ⟨(y285), (wrap64 (x37_5 - 1)), (by first | rfl | (simp; done) | (simp [*]; done)), H', ⟨by have := HJ6.out; have := HJ13.out; have := HJ29.out; have := HJ92.out; have := HK5.out; omega⟩, ⟨by (with_reducible repeat first | apply Kd.R_alloc | apply Kd.R_drewN | apply Kd.R_drew); exact HO_13.out⟩, ⟨by (with_reducible repeat first | apply Kd.R_alloc | apply Kd.R_drewN | apply Kd.R_drew); exact Kd.R_mono HO_19.out (fun _ hk => hk.2)⟩, ⟨by (with_reducible repeat first | apply Kd.R_alloc | apply Kd.R_drewN | apply Kd.R_drew); exact HO_27.out⟩, ⟨by (with_reducible repeat first | apply Kd.R_alloc | apply Kd.R_drewN | apply Kd.R_drew); exact HO287.out⟩, ⟨by (with_reducible repeat first | apply Kd.R_alloc | apply Kd.R_drewN | apply Kd.R_drew); exact HO_242003.out⟩, ⟨by (with_reducible repeat first | apply Kd.R_alloc | apply Kd.R_drewN | apply Kd.R_drew); exact HO_284003.out⟩, ⟨by (with_reducible repeat first | refine blk_drewN ?_ _ | refine blk_drew ?_ | refine blk_alloc ?_ _); exact BK241.out⟩, ⟨by (with_reducible repeat first | refine blk_drewN ?_ _ | refine blk_drew ?_ | refine blk_alloc ?_ _); exact BK283.out⟩, ⟨by repeat (first | (with_reducible first | exact HB.out | apply below_alloc | apply pw_below_drewN | apply below_drew1 | refine below_set ?_ GE241.out | refine below_set ?_ GE283.out) | exact HB.out)⟩⟩
                    ·(rw [if_neg c115] at H);(exact absurd H (by simp))
                   ·(rw [if_neg c114] at H);(exact absurd H (by simp))
                  ·(rw [if_neg c113] at H);(exact absurd H (by simp))
                 ·(rw [if_neg c112] at H);(have c112b0 : decide (0 ≤ x37_5) = false := decide_eq_false c112);(clear c112);(replace H := Option.bind_eq_some_iff.mp H);(obtain ⟨⟨t288, t291⟩, A1170, H⟩ := H);(replace H : (if t291 = 0 then ((racewayref5_Same.f k5 t288 t242).bind fun t292 => (some t292)) else (some false)) = some r := H);(have A117 := Aside0.mk A1170);(clear A1170)
                  by_cases c118 : t291 = 0
                  ·(rw [if_pos c118] at H);(have c118b0 : (t291 == 0) = true := beq_iff_eq.mpr c118);(have c118b1 : (t291 != 0) = false := bne_eq_false_iff_eq.mpr c118);(clear c118);(replace H := Option.bind_eq_some_iff.mp H);(obtain ⟨t292, A1190, H⟩ := H);(replace H : (some t292) = some r := H);(have A119 := Aside0.mk A1190);(clear A1190)
                   as_aux_lemma =>
                    (obtain rfl := Option.some.inj H);(have hnb120 := NB283_241.out);(have hnc120 := NB241_283.out);(have hcz121_0 : wr.cell? ⟨gb283, 0, none⟩ = some (.int .i64 t235) := (blk_cell BK283.out 0).trans rfl);(have hcz121_1 : wr.cell? ⟨gb283, 1, none⟩ = some (.int .i64 t237) := (blk_cell BK283.out 1).trans rfl);(have hcz121_2 : wr.cell? ⟨gb283, 2, none⟩ = some (.int .i64 t236) := (blk_cell BK283.out 2).trans rfl);(have hcz121_3 : wr.cell? ⟨gb283, 3, none⟩ = some (.slice Ao18 t238.length co18) := (blk_cell BK283.out 3).trans rfl);(have hfz121_0 := blk_frozen BK283.out 0);(have hfz121_1 := blk_frozen BK283.out 1);(have hfz121_2 := blk_frozen BK283.out 2);(have hfz121_3 := blk_frozen BK283.out 3);(obtain ⟨Ao122, co122, eo122⟩ := Kd.R_slice HO_36.out);(subst eo122)
                    go_wp2_with (first | ((with_reducible refine gate_callee (f := 28) rfl ?_); refine goesL_ (some 226) rfl rfl Try.func28 (by kernel_rfl) rfl #[.agg #[.int .i64 t235, .int .i64 t237, .int .i64 t236, .slice Ao18 t238.length co18], .slice Ao100 t271.length co100, .slice Ao122 x36_5.length co122, .int .i64 x18_29] rfl (by (try simp only [List.map_toArray, List.map_cons, List.map_nil]); first | done | rfl | (simp only [List.length_drop, List.length_take]; rfl)) ?_; (with_reducible refine (residual_Push.calls k5 t235 t237 t236 _ _ t238 _ _ t271 _ _ x36_5 x18_29 t288 t291 _ ?side1 ?side2 ?side3 ?side4 ?side5 ?side6 A117.out).mono ?_); (case side1 => repeat (first | exact (Kd.R_reads' HO_284003.out).2.2 | (with_reducible refine Kd.C_alloc ?_ _) | (with_reducible refine Kd.C_drewN ?_ _) | (with_reducible refine Kd.C_drew ?_))); (case side2 => exact (Kd.R_reads' HO_284003.out).2.1); (case side3 => repeat (first | exact (Kd.R_reads' HO_27.out).2.2 | (with_reducible refine Kd.C_alloc ?_ _) | (with_reducible refine Kd.C_drewN ?_ _) | (with_reducible refine Kd.C_drew ?_))); (case side4 => exact (Kd.R_reads' HO_27.out).2.1); (case side5 => repeat (first | exact (Kd.R_reads' HO_36.out).2.2 | (with_reducible refine Kd.C_alloc ?_ _) | (with_reducible refine Kd.C_drewN ?_ _) | (with_reducible refine Kd.C_drew ?_))); (case side6 => exact (Kd.R_reads' HO_36.out).2.1); rintro e w123 ⟨v289, rfl, ho0, hb⟩; refine ⟨_, rfl, ?_⟩; have n0_ := Aside0.mk (Kd.R_elder' (by (with_reducible repeat first | apply Kd.R_alloc | apply Kd.R_drewN | apply Kd.R_drew); exact HO_13.out) (Kd.R_base ho0) hb); have n1_ := Aside0.mk (Kd.R_below (by (with_reducible repeat first | apply Kd.R_alloc | apply Kd.R_drewN | apply Kd.R_drew); exact HO_19.out) hb); have n2_ := Aside0.mk (Kd.R_elder' (by (with_reducible repeat first | apply Kd.R_alloc | apply Kd.R_drewN | apply Kd.R_drew); exact HO_27.out) (Kd.R_base ho0) hb); have n3_ := Aside0.mk (Kd.R_below (by (with_reducible repeat first | apply Kd.R_alloc | apply Kd.R_drewN | apply Kd.R_drew); exact HO_36.out) hb); have n4_ := Aside0.mk (Kd.R_below (by (with_reducible repeat first | apply Kd.R_alloc | apply Kd.R_drewN | apply Kd.R_drew); exact HO_242003.out) hb); have n5_ := Aside0.mk (Kd.R_below (by (with_reducible repeat first | apply Kd.R_alloc | apply Kd.R_drewN | apply Kd.R_drew); exact HO_284003.out) hb); have n6_ := Aside0.mk (Kd.R_lower (Kd.R_new' (Kd.R_new' ho0 (Kd.R_lt (by (with_reducible repeat first | apply Kd.R_alloc | apply Kd.R_drewN | apply Kd.R_drew); exact HO_13.out))) (Kd.R_lt (by (with_reducible repeat first | apply Kd.R_alloc | apply Kd.R_drewN | apply Kd.R_drew); exact HO_27.out))) (below_size (by repeat (first | (with_reducible first | exact HB.out | apply below_alloc | apply pw_below_drewN | apply below_drew1 | refine below_set ?_ GE241.out | refine below_set ?_ GE283.out) | exact HB.out)))); have n7_ := Aside0.mk (blk_below (g := gb241) (o := .cells #[.int .i64 t235, .int .i64 t236, .int .i64 t237, .slice Ao18 t238.length co18] 27 (0, 0)) (by (with_reducible repeat first | refine blk_drewN ?_ _ | refine blk_drew ?_ | refine blk_alloc ?_ _); exact BK241.out) hb); have n8_ := Aside0.mk (blk_below (g := gb283) (o := .cells #[.int .i64 t235, .int .i64 t237, .int .i64 t236, .slice Ao18 t238.length co18] 27 (0, 0)) (by (with_reducible repeat first | refine blk_drewN ?_ _ | refine blk_drew ?_ | refine blk_alloc ?_ _); exact BK283.out) hb); have n9_ := Aside0.mk (below_step (by repeat (first | (with_reducible first | exact HB.out | apply below_alloc | apply pw_below_drewN | apply below_drew1 | refine below_set ?_ GE241.out | refine below_set ?_ GE283.out) | exact HB.out)) hb); clear HO_13; clear HO_19; clear HO_27; clear HO_36; clear HO_242003; clear HO_284003; clear BK241; clear BK283; clear HB; have HO_13 := n0_; have HO_19 := n1_; have HO_27 := n2_; have HO_36 := n3_; have HO_242003 := n4_; have HO_284003 := n5_; have HO290 := n6_; have BK241 := n7_; have BK283 := n8_; have HB := n9_; clear n0_ n1_ n2_ n3_ n4_ n5_ n6_ n7_ n8_ n9_; (try clear hb); (try clear hb2); (try clear hk); (try clear hi); (try clear ho0); obtain ⟨Ao124, co124, eo124⟩ := Kd.R_slice HO290.out; subst eo124) | (go_at_call 29; (with_reducible refine (racewayref5_Same.calls k5 _ _ t288 _ _ t242 t292 _ ?side1 ?side2 ?side3 ?side4 A119.out).mono ?_); (case side1 => repeat (first | exact (Kd.R_reads' HO290.out).2.2 | (with_reducible refine Kd.C_alloc ?_ _) | (with_reducible refine Kd.C_drewN ?_ _) | (with_reducible refine Kd.C_drew ?_))); (case side2 => exact (Kd.R_reads' HO290.out).2.1); (case side3 => repeat (first | exact (Kd.R_reads' HO_13.out).2.2 | (with_reducible refine Kd.C_alloc ?_ _) | (with_reducible refine Kd.C_drewN ?_ _) | (with_reducible refine Kd.C_drew ?_))); (case side4 => exact (Kd.R_reads' HO_13.out).2.1); rintro e w' ⟨rfl, ⟨nd, rfl⟩⟩))
                    go_ret
                    exact ⟨by first | rfl | (simp [errW_none, errW_some] <;> rfl) | (simp only [← hji27]; first | rfl | (simp [errW_none, errW_some] <;> rfl)) | (simp [*, errW_none, errW_some] <;> rfl), by repeat (first | (with_reducible first | exact HB.out | apply below_alloc | apply pw_below_drewN | apply below_drew1 | refine below_set ?_ GE241.out | refine below_set ?_ GE283.out) | exact HB.out)⟩
                  ·(rw [if_neg c118] at H);(have c118b0 : (t291 == 0) = false := beq_eq_false_iff_ne.mpr c118);(have c118b1 : (t291 != 0) = true := bne_iff_ne.mpr c118);(exact absurd ((Option.some.inj H).trans hrT_.out) (by simp))
           ·(rw [if_neg c88] at H);(have c88b0 : (x17_29 == t237) = false := beq_eq_false_iff_ne.mpr c88);(have c88b1 : (x17_29 != t237) = true := bne_iff_ne.mpr c88);(replace H := Option.bind_eq_some_iff.mp H);(obtain ⟨⟨t267, t270⟩, A1250, H⟩ := H);(replace H : (some (t270 == 1)) = some r := H);(have A125 := Aside0.mk A1250);(clear A1250)
            as_aux_lemma =>
             (obtain rfl := Option.some.inj H);(have hcz126_0 : wc.cell? ⟨gb241, 0, none⟩ = some (.int .i64 t235) := (blk_cell BK241.out 0).trans rfl);(have hcz126_1 : wc.cell? ⟨gb241, 1, none⟩ = some (.int .i64 t236) := (blk_cell BK241.out 1).trans rfl);(have hcz126_2 : wc.cell? ⟨gb241, 2, none⟩ = some (.int .i64 t237) := (blk_cell BK241.out 2).trans rfl);(have hcz126_3 : wc.cell? ⟨gb241, 3, none⟩ = some (.slice Ao18 t238.length co18) := (blk_cell BK241.out 3).trans rfl);(have hfz126_0 := blk_frozen BK241.out 0);(have hfz126_1 := blk_frozen BK241.out 1);(have hfz126_2 := blk_frozen BK241.out 2);(have hfz126_3 := blk_frozen BK241.out 3);(obtain ⟨Ao127, co127, eo127⟩ := Kd.R_slice HO_19.out);(subst eo127)
             go_wp2_with (first | ((with_reducible refine gate_callee (f := 28) rfl ?_); refine goesL_ (some 146) rfl rfl Try.func28 (by kernel_rfl) rfl #[.agg #[.int .i64 t235, .int .i64 t236, .int .i64 t237, .slice Ao18 t238.length co18], .slice Ao21 t242.length co21, .slice Ao127 x19_29.length co127, .int .i64 1] rfl (by (try simp only [List.map_toArray, List.map_cons, List.map_nil]); first | done | rfl | (simp only [List.length_drop, List.length_take]; rfl)) ?_; (with_reducible refine (residual_Push.calls kj29 t235 t236 t237 _ _ t238 _ _ t242 _ _ x19_29 1 t267 t270 _ ?side1 ?side2 ?side3 ?side4 ?side5 ?side6 A125.out).mono ?_); (case side1 => repeat (first | exact (Kd.R_reads' HO_242003.out).2.2 | (with_reducible refine Kd.C_alloc ?_ _) | (with_reducible refine Kd.C_drewN ?_ _) | (with_reducible refine Kd.C_drew ?_))); (case side2 => exact (Kd.R_reads' HO_242003.out).2.1); (case side3 => repeat (first | exact (Kd.R_reads' HO_13.out).2.2 | (with_reducible refine Kd.C_alloc ?_ _) | (with_reducible refine Kd.C_drewN ?_ _) | (with_reducible refine Kd.C_drew ?_))); (case side4 => exact (Kd.R_reads' HO_13.out).2.1); (case side5 => repeat (first | exact (Kd.R_reads' HO_19.out).2.2 | (with_reducible refine Kd.C_alloc ?_ _) | (with_reducible refine Kd.C_drewN ?_ _) | (with_reducible refine Kd.C_drew ?_))); (case side6 => exact (Kd.R_reads' HO_19.out).2.1); rintro e w128 ⟨v268, rfl, ho0, hb⟩; refine ⟨_, rfl, ?_⟩; have n0_ := Aside0.mk (Kd.R_elder' (by (with_reducible repeat first | apply Kd.R_alloc | apply Kd.R_drewN | apply Kd.R_drew); exact HO_13.out) (Kd.R_base ho0) hb); have n1_ := Aside0.mk (Kd.R_below (by (with_reducible repeat first | apply Kd.R_alloc | apply Kd.R_drewN | apply Kd.R_drew); exact HO_19.out) hb); have n2_ := Aside0.mk (Kd.R_below (by (with_reducible repeat first | apply Kd.R_alloc | apply Kd.R_drewN | apply Kd.R_drew); exact HO_242003.out) hb); have n3_ := Aside0.mk (Kd.R_lower (Kd.R_new' ho0 (Kd.R_lt (by (with_reducible repeat first | apply Kd.R_alloc | apply Kd.R_drewN | apply Kd.R_drew); exact HO_13.out))) (below_size (by repeat (first | (with_reducible first | exact HB.out | apply below_alloc | apply pw_below_drewN | apply below_drew1 | refine below_set ?_ GE241.out) | exact HB.out)))); have n4_ := Aside0.mk (blk_below (g := gb241) (o := .cells #[.int .i64 t235, .int .i64 t236, .int .i64 t237, .slice Ao18 t238.length co18] 27 (0, 0)) (by (with_reducible repeat first | refine blk_drewN ?_ _ | refine blk_drew ?_ | refine blk_alloc ?_ _); exact BK241.out) hb); have n5_ := Aside0.mk (below_step (by repeat (first | (with_reducible first | exact HB.out | apply below_alloc | apply pw_below_drewN | apply below_drew1 | refine below_set ?_ GE241.out) | exact HB.out)) hb); clear HO_13; clear HO_19; clear HO_242003; clear BK241; clear HB; have HO_13 := n0_; have HO_19 := n1_; have HO_242003 := n2_; have HO269 := n3_; have BK241 := n4_; have HB := n5_; clear n0_ n1_ n2_ n3_ n4_ n5_; (try clear hb); (try clear hb2); (try clear hk); (try clear hi); (try clear ho0)))
             go_ret
             exact ⟨by first | rfl | (simp [errW_none, errW_some] <;> rfl) | (simp only [← hji27]; first | rfl | (simp [errW_none, errW_some] <;> rfl)) | (simp [*, errW_none, errW_some] <;> rfl), by repeat (first | (with_reducible first | exact HB.out | apply below_alloc | apply pw_below_drewN | apply below_drew1 | refine below_set ?_ GE241.out) | exact HB.out)⟩
        ·(rw [if_neg c29] at H);(exact absurd H (by simp))
       ·(rw [if_neg c28] at H);(exact absurd H (by simp))
/-- THE ONE PURE STATEMENT of racewaylaw6_ResidualPushes. -/
def racewaylaw6_ResidualPushes.Pure : Prop := ∀ (a0 : Int) (a1 : Int) (l2 : List (S68)) (l3 : List Int) (l4 : List Int), (Lit.int .i64 a0).wf = true → (Lit.int .i64 a1).wf = true → l2.length ≤ maxLen → (∀ x ∈ l2, (Lit.int .i64 x.f0).wf = true ∧ (Lit.int .i64 x.f1).wf = true ∧ (Lit.int .i64 x.f2).wf = true) → l3.length ≤ maxLen → l3.length * 8 ≤ 140737488351232 → (∀ x ∈ l3, (Lit.int .i64 x).wf = true) → l4.length ≤ maxLen → l4.length * 8 ≤ 140737488351232 → (∀ x ∈ l4, (Lit.int .i64 x).wf = true) → ∃ k, racewaylaw6_ResidualPushes.f k a0 a1 l2 l3 l4 = some true
theorem racewaylaw6_ResidualPushes.walk (P : racewaylaw6_ResidualPushes.Pure) (a0 : Int) (a1 : Int) (A2 : Option Addr) (c2 : Nat) (l2 : List (S68)) (A3 : Option Addr) (c3 : Nat) (l3 : List Int) (A4 : Option Addr) (c4 : Nat) (l4 : List Int) (w : World) (w0 : (Lit.int .i64 a0).wf = true) (w1 : (Lit.int .i64 a1).wf = true) (hr2 : Kd.C k68 w A2 l2.length l2) (hc2 : l2.length ≤ c2) (hm2 : l2.length ≤ maxLen) (hw2 : (∀ x ∈ l2, (Lit.int .i64 x.f0).wf = true ∧ (Lit.int .i64 x.f1).wf = true ∧ (Lit.int .i64 x.f2).wf = true)) (hr3 : Kd.C (Kd.int .i64) w A3 l3.length l3) (hc3 : l3.length ≤ c3) (hm3 : l3.length ≤ maxLen) (y3 : l3.length * 8 ≤ 140737488351232) (hw3 : (∀ x ∈ l3, (Lit.int .i64 x).wf = true)) (hr4 : Kd.C (Kd.int .i64) w A4 l4.length l4) (hc4 : l4.length ≤ c4) (hm4 : l4.length ≤ maxLen) (y4 : l4.length * 8 ≤ 140737488351232) (hw4 : (∀ x ∈ l4, (Lit.int .i64 x).wf = true)) :
  Calls Try.prog 8 #[.int .i64 a0, .int .i64 a1, .slice A2 l2.length c2, .slice A3 l3.length c3, .slice A4 l4.length c4] w fun e w' => e = .returned (.bool true) ∧ Below w.heap.size w w' := by
 obtain ⟨k, h⟩ := P a0 a1 l2 l3 l4 w0 w1 hm2 hw2 hm3 y3 hw3 hm4 y4 hw4
 refine (racewaylaw6_ResidualPushes.calls k a0 a1 _ _ l2 _ _ l3 _ _ l4 true w hr2 hc2 hr3 hc3 hr4 hc4 h ⟨rfl⟩).mono ?_
 rintro e w' ⟨rfl, hd⟩
 exact ⟨rfl, hd⟩
end Go.Proofs.Ytbppeffcikphcaa.PResidualPushes
