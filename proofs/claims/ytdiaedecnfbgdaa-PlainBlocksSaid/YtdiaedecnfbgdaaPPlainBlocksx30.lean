/- For the law PlainBlocks, for every input: printed by a program (wip/myprint), contracts by hand where it says MANUAL. -/
-- slim5
-- slim
import Derived.Test.YtdiaedecnfbgdaaPPlainBlocksx0
import Derived.Test.YtdiaedecnfbgdaaPPlainBlocksx5
import Derived.Test.YtdiaedecnfbgdaaPPlainBlocksx6
import Derived.Test.YtdiaedecnfbgdaaPPlainBlocksx7
import Derived.Test.YtdiaedecnfbgdaaPPlainBlocksx8
import Derived.Test.YtdiaedecnfbgdaaPPlainBlocksx11
import Derived.Test.YtdiaedecnfbgdaaPPlainBlocksx19
import Derived.Test.YtdiaedecnfbgdaaPPlainBlocksx20
import Derived.Test.YtdiaedecnfbgdaaPPlainBlocksx21
import Derived.Test.YtdiaedecnfbgdaaPPlainBlocksx22
import Derived.Test.YtdiaedecnfbgdaaPPlainBlocksx24
import Derived.Test.YtdiaedecnfbgdaaPPlainBlocksx25
import Derived.Test.YtdiaedecnfbgdaaPPlainBlocksx26
import Derived.Test.YtdiaedecnfbgdaaPPlainBlocksx27
import Derived.Test.YtdiaedecnfbgdaaPPlainBlocksx29
namespace Go.Proofs.Ytdiaedecnfbgdaa.PPlainBlocks
open Go.RowKit Go.Proofs.YtdiaedecnfbgdaaW.PrintWords Go.Proofs.YtdiaedecnfbgdaaW.PrintLast Go.Proofs.YtdiaedecnfbgdaaW.PrintMore
attribute [local go_sem] max2_int min2_int max_two min_two max_three min_three max_four min_four
set_option linter.unusedVariables false
set_option linter.unusedSimpArgs false
/-! ### racewaylaw8_PlainBlocks: function 12 -/
mutual
def racewaylaw8_PlainBlocks.j0 : Nat → List Int → Int → List Int → List (S61) → Int → Int → List Int → Bool → Int → Int → Int → List (S30) → Option (Bool)
 | 0, _, _, _, _, _, _, _, _, _, _, _, _ => none
 | k + 1, x13, x14, x15, x16, x18, x20, x22, x102, x261000, x261001, x261002, x261003 => if x102 = true then (some false) else (if (x16.length : Int) > 0 then (if x18 ≥ 0 then (if x20 ≥ 0 then (if x20 ≤ x18 then (racewaylaw8_PlainBlocks.j1 k x13 x14 x15 x16 x18 x22 true x261000 x261001 x261002 x261003) else (racewaylaw8_PlainBlocks.j1 k x13 x14 x15 x16 x18 x22 (decide ((x16.length : Int) > (x22.length : Int))) x261000 x261001 x261002 x261003)) else (racewaylaw8_PlainBlocks.j1 k x13 x14 x15 x16 x18 x22 (decide ((x16.length : Int) > (x22.length : Int))) x261000 x261001 x261002 x261003)) else (racewaylaw8_PlainBlocks.j1 k x13 x14 x15 x16 x18 x22 true x261000 x261001 x261002 x261003)) else (if x18 ≥ 0 then (racewaylaw8_PlainBlocks.j1 k x13 x14 x15 x16 x18 x22 true x261000 x261001 x261002 x261003) else (if x20 ≥ 0 then (if x20 ≤ x18 then (racewaylaw8_PlainBlocks.j1 k x13 x14 x15 x16 x18 x22 true x261000 x261001 x261002 x261003) else (racewaylaw8_PlainBlocks.j1 k x13 x14 x15 x16 x18 x22 (decide ((x16.length : Int) > (x22.length : Int))) x261000 x261001 x261002 x261003)) else (racewaylaw8_PlainBlocks.j1 k x13 x14 x15 x16 x18 x22 (decide ((x16.length : Int) > (x22.length : Int))) x261000 x261001 x261002 x261003))))
def racewaylaw8_PlainBlocks.j1 : Nat → List Int → Int → List Int → List (S61) → Int → List Int → Bool → Int → Int → Int → List (S30) → Option (Bool)
 | 0, _, _, _, _, _, _, _, _, _, _, _ => none
 | k + 1, x13, x14, x15, x16, x18, x22, x124, x261000, x261001, x261002, x261003 => if x124 = true then (some false) else (racewaylaw8_PlainBlocks.l0 k x13 x14 x15 x16 x18 x22 x13 0 0 x261000 x261001 x261002 x261003)
def racewaylaw8_PlainBlocks.l0 : Nat → List Int → Int → List Int → List (S61) → Int → List Int → List Int → Int → Int → Int → Int → Int → List (S30) → Option (Bool)
 | 0, _, _, _, _, _, _, _, _, _, _, _, _, _ => none
 | k + 1, x13, x14, x15, x16, x18, x22, x24, x25, x26, x261000, x261001, x261002, x261003 => if x26 < (x16.length : Int) then ((plain_Next.f k x261000 x261001 x261002 x261003 x24 x22 x14).bind fun bt281 => ((residual_Room.f k x261000 x261001 x261002 x261003 x24).bind fun bt285 => (racewaylaw8_PlainBlocks.l1 k x13 x14 x15 x16 x18 x22 x24 x25 x26 bt281.1 bt281.2 bt285.1 4611686018427387904 0 x261000 x261001 x261002 x261003))) else ((plain_Next.f k x261000 x261001 x261002 x261003 x24 x22 x14).bind fun bt302 => ((flow_Value.f k x261000 x261001 x261002 x261003 x13).bind fun bt306 => ((flow_Value.f k x261000 x261001 x261002 x261003 x15).bind fun bt308 => (if bt302.2 = true then (some false) else ((racewayref5_Same.f k x24 x15).bind fun t310 => (if t310 = true then (some (bt308.1 == (wrap64 (bt306.1 + x25)))) else (some false)))))))
def racewaylaw8_PlainBlocks.l1 : Nat → List Int → Int → List Int → List (S61) → Int → List Int → List Int → Int → Int → List Int → Bool → List Int → Int → Int → Int → Int → Int → List (S30) → Option (Bool)
 | 0, _, _, _, _, _, _, _, _, _, _, _, _, _, _, _, _, _, _ => none
 | k + 1, x13, x14, x15, x16, x18, x22, x24, x25, x26, x27, x28, x29, x31, x32, x261000, x261001, x261002, x261003 => if 0 ≤ x26 then (if x26 < (x16.length : Int) then (if x32 < (((rd_T61 x16 x26).f0).length : Int) then (if 0 ≤ x32 then (if 0 ≤ (rd ((rd_T61 x16 x26).f0) x32) then (if (rd ((rd_T61 x16 x26).f0) x32) < (x29.length : Int) then (racewaylaw8_PlainBlocks.l1 k x13 x14 x15 x16 x18 x22 x24 x25 x26 x27 x28 x29 (mn x31 (rd x29 (rd ((rd_T61 x16 x26).f0) x32))) (wrap64 (x32 + 1)) x261000 x261001 x261002 x261003) else (none)) else (none)) else (none)) else ((residual_Push.f k x261000 x261001 x261002 x261003 x24 ((rd_T61 x16 x26).f0) ((rd_T61 x16 x26).f1)).bind fun bt295 => (if x28 = true then ((racewaylaw8_same.f k x27 ((rd_T61 x16 x26).f0)).bind fun t300 => (if t300 = true then (if (x27.length : Int) = x18 then (if x31 = ((rd_T61 x16 x26).f1) then (if x31 < x14 then (some false) else (if bt295.2 = 0 then (racewaylaw8_PlainBlocks.l0 k x13 x14 x15 x16 x18 x22 bt295.1 (wrap64 (x25 + x31)) (wrap64 (x26 + 1)) x261000 x261001 x261002 x261003) else (some false))) else (some false)) else (some false)) else (some false))) else (some false)))) else (none)) else (none)
end
def racewaylaw8_PlainBlocks.f (k : Nat) (a0 : Int) (a1 : Int) (l2 : List (S91)) (l3 : List Int) (a4 : Int) : Option (Bool) := (racewaylaw8_shown.f k).bind fun t253 => (if t253 = true then ((racewaylaw8_made.f k a0 a1 l2).bind fun bt254 => ((racewaylaw8_routed.f k bt254.1 bt254.2.1 bt254.2.2.1 bt254.2.2.2 l3).bind fun t261 => ((racewaylaw8_pick.f a4 10).bind fun t264 => ((plain_Block.f k bt254.1 bt254.2.1 bt254.2.2.1 bt254.2.2.2 t261 (wrap64 (1 + t264))).bind fun bt265 => ((level_Deep.f k bt254.1 bt254.2.1 bt254.2.2.1 bt254.2.2.2 t261 (wrap64 (1 + t264))).bind fun bt272 => ((level_Deep.f k bt254.1 bt254.2.1 bt254.2.2.1 bt254.2.2.2 bt265.1 (wrap64 (1 + t264))).bind fun bt274 => ((level_Leads.f k bt254.1 bt254.2.1 bt254.2.2.1 bt254.2.2.2 t261 (wrap64 (1 + t264))).bind fun bt276 => (if bt265.2.2 = 0 then (if bt272.2 = 0 then (if bt274.2 = 0 then (if bt276.2 = 0 then ((flow_Check.f k bt254.1 bt254.2.1 bt254.2.2.1 bt254.2.2.2 bt265.1).bind fun t280 => (racewaylaw8_PlainBlocks.j0 k t261 (wrap64 (1 + t264)) bt265.1 bt265.2.1 bt272.1 bt274.1 bt276.1 (t280 != 0) bt254.1 bt254.2.1 bt254.2.2.1 bt254.2.2.2)) else (racewaylaw8_PlainBlocks.j0 k t261 (wrap64 (1 + t264)) bt265.1 bt265.2.1 bt272.1 bt274.1 bt276.1 true bt254.1 bt254.2.1 bt254.2.2.1 bt254.2.2.2)) else (racewaylaw8_PlainBlocks.j0 k t261 (wrap64 (1 + t264)) bt265.1 bt265.2.1 bt272.1 bt274.1 bt276.1 true bt254.1 bt254.2.1 bt254.2.2.1 bt254.2.2.2)) else (racewaylaw8_PlainBlocks.j0 k t261 (wrap64 (1 + t264)) bt265.1 bt265.2.1 bt272.1 bt274.1 bt276.1 true bt254.1 bt254.2.1 bt254.2.2.1 bt254.2.2.2)) else (racewaylaw8_PlainBlocks.j0 k t261 (wrap64 (1 + t264)) bt265.1 bt265.2.1 bt272.1 bt274.1 bt276.1 true bt254.1 bt254.2.1 bt254.2.2.1 bt254.2.2.2))))))))) else (some false))
theorem racewaylaw8_PlainBlocks.mono_l : ∀ k, (∀ y0 y1 y2 y3 y4 y5 y6 y7 y8 y9 y10 y11, LeO (racewaylaw8_PlainBlocks.j0 k y0 y1 y2 y3 y4 y5 y6 y7 y8 y9 y10 y11) (racewaylaw8_PlainBlocks.j0 (k + 1) y0 y1 y2 y3 y4 y5 y6 y7 y8 y9 y10 y11)) ∧ (∀ y0 y1 y2 y3 y4 y5 y6 y7 y8 y9 y10, LeO (racewaylaw8_PlainBlocks.j1 k y0 y1 y2 y3 y4 y5 y6 y7 y8 y9 y10) (racewaylaw8_PlainBlocks.j1 (k + 1) y0 y1 y2 y3 y4 y5 y6 y7 y8 y9 y10)) ∧ (∀ y0 y1 y2 y3 y4 y5 y6 y7 y8 y9 y10 y11 y12, LeO (racewaylaw8_PlainBlocks.l0 k y0 y1 y2 y3 y4 y5 y6 y7 y8 y9 y10 y11 y12) (racewaylaw8_PlainBlocks.l0 (k + 1) y0 y1 y2 y3 y4 y5 y6 y7 y8 y9 y10 y11 y12)) ∧ (∀ y0 y1 y2 y3 y4 y5 y6 y7 y8 y9 y10 y11 y12 y13 y14 y15 y16 y17, LeO (racewaylaw8_PlainBlocks.l1 k y0 y1 y2 y3 y4 y5 y6 y7 y8 y9 y10 y11 y12 y13 y14 y15 y16 y17) (racewaylaw8_PlainBlocks.l1 (k + 1) y0 y1 y2 y3 y4 y5 y6 y7 y8 y9 y10 y11 y12 y13 y14 y15 y16 y17))
 | 0 => ⟨fun _ _ _ _ _ _ _ _ _ _ _ _ r h => by simp [racewaylaw8_PlainBlocks.j0] at h, fun _ _ _ _ _ _ _ _ _ _ _ r h => by simp [racewaylaw8_PlainBlocks.j1] at h, fun _ _ _ _ _ _ _ _ _ _ _ _ _ r h => by simp [racewaylaw8_PlainBlocks.l0] at h, fun _ _ _ _ _ _ _ _ _ _ _ _ _ _ _ _ _ _ r h => by simp [racewaylaw8_PlainBlocks.l1] at h⟩
 | k + 1 => by
  (obtain ⟨ih0, ih1, ih2, ih3⟩ := racewaylaw8_PlainBlocks.mono_l k); (refine ⟨?_, ?_, ?_, ?_⟩)
  ·intro y0 y1 y2 y3 y4 y5 y6 y7 y8 y9 y10 y11
   unfold racewaylaw8_PlainBlocks.j0
   repeat' first
   | (with_reducible exact ih0 _ _ _ _ _ _ _ _ _ _ _ _)
   | (with_reducible exact ih1 _ _ _ _ _ _ _ _ _ _ _)
   | (with_reducible exact ih2 _ _ _ _ _ _ _ _ _ _ _ _ _)
   | (with_reducible exact ih3 _ _ _ _ _ _ _ _ _ _ _ _ _ _ _ _ _ _)
   | (with_reducible exact flow_Check.mono _ _ _ _ _ _)
   | (with_reducible exact flow_Value.mono _ _ _ _ _ _)
   | (with_reducible exact level_Deep.mono _ _ _ _ _ _ _)
   | (with_reducible exact level_Leads.mono _ _ _ _ _ _ _)
   | (with_reducible exact plain_Block.mono _ _ _ _ _ _ _)
   | (with_reducible exact plain_Next.mono _ _ _ _ _ _ _ _)
   | (with_reducible exact racewaylaw8_made.mono _ _ _ _)
   | (with_reducible exact racewaylaw8_routed.mono _ _ _ _ _ _)
   | (with_reducible exact racewaylaw8_same.mono _ _ _)
   | (with_reducible exact racewaylaw8_shown.mono _)
   | (with_reducible exact racewayref5_Same.mono _ _ _)
   | (with_reducible exact residual_Push.mono _ _ _ _ _ _ _ _)
   | (with_reducible exact residual_Room.mono _ _ _ _ _ _)
   | (with_reducible exact LeO.refl _)
   | (with_reducible exact LeO.none _)
   | (with_reducible refine LeO.ite ?_ ?_)
   | (with_reducible refine LeO.bind ?_ (fun _ => ?_))
   | exact ih0 _ _ _ _ _ _ _ _ _ _ _ _
   | exact ih1 _ _ _ _ _ _ _ _ _ _ _
   | exact ih2 _ _ _ _ _ _ _ _ _ _ _ _ _
   | exact ih3 _ _ _ _ _ _ _ _ _ _ _ _ _ _ _ _ _ _
   | exact flow_Check.mono _ _ _ _ _ _
   | exact flow_Value.mono _ _ _ _ _ _
   | exact level_Deep.mono _ _ _ _ _ _ _
   | exact level_Leads.mono _ _ _ _ _ _ _
   | exact plain_Block.mono _ _ _ _ _ _ _
   | exact plain_Next.mono _ _ _ _ _ _ _ _
   | exact racewaylaw8_made.mono _ _ _ _
   | exact racewaylaw8_routed.mono _ _ _ _ _ _
   | exact racewaylaw8_same.mono _ _ _
   | exact racewaylaw8_shown.mono _
   | exact racewayref5_Same.mono _ _ _
   | exact residual_Push.mono _ _ _ _ _ _ _ _
   | exact residual_Room.mono _ _ _ _ _ _
   | exact LeO.none _
   | refine LeO.ite ?_ ?_
   | refine LeO.bind ?_ (fun _ => ?_)
  ·intro y0 y1 y2 y3 y4 y5 y6 y7 y8 y9 y10
   unfold racewaylaw8_PlainBlocks.j1
   repeat' first
   | (with_reducible exact ih0 _ _ _ _ _ _ _ _ _ _ _ _)
   | (with_reducible exact ih1 _ _ _ _ _ _ _ _ _ _ _)
   | (with_reducible exact ih2 _ _ _ _ _ _ _ _ _ _ _ _ _)
   | (with_reducible exact ih3 _ _ _ _ _ _ _ _ _ _ _ _ _ _ _ _ _ _)
   | (with_reducible exact flow_Check.mono _ _ _ _ _ _)
   | (with_reducible exact flow_Value.mono _ _ _ _ _ _)
   | (with_reducible exact level_Deep.mono _ _ _ _ _ _ _)
   | (with_reducible exact level_Leads.mono _ _ _ _ _ _ _)
   | (with_reducible exact plain_Block.mono _ _ _ _ _ _ _)
   | (with_reducible exact plain_Next.mono _ _ _ _ _ _ _ _)
   | (with_reducible exact racewaylaw8_made.mono _ _ _ _)
   | (with_reducible exact racewaylaw8_routed.mono _ _ _ _ _ _)
   | (with_reducible exact racewaylaw8_same.mono _ _ _)
   | (with_reducible exact racewaylaw8_shown.mono _)
   | (with_reducible exact racewayref5_Same.mono _ _ _)
   | (with_reducible exact residual_Push.mono _ _ _ _ _ _ _ _)
   | (with_reducible exact residual_Room.mono _ _ _ _ _ _)
   | (with_reducible exact LeO.refl _)
   | (with_reducible exact LeO.none _)
   | (with_reducible refine LeO.ite ?_ ?_)
   | (with_reducible refine LeO.bind ?_ (fun _ => ?_))
   | exact ih0 _ _ _ _ _ _ _ _ _ _ _ _
   | exact ih1 _ _ _ _ _ _ _ _ _ _ _
   | exact ih2 _ _ _ _ _ _ _ _ _ _ _ _ _
   | exact ih3 _ _ _ _ _ _ _ _ _ _ _ _ _ _ _ _ _ _
   | exact flow_Check.mono _ _ _ _ _ _
   | exact flow_Value.mono _ _ _ _ _ _
   | exact level_Deep.mono _ _ _ _ _ _ _
   | exact level_Leads.mono _ _ _ _ _ _ _
   | exact plain_Block.mono _ _ _ _ _ _ _
   | exact plain_Next.mono _ _ _ _ _ _ _ _
   | exact racewaylaw8_made.mono _ _ _ _
   | exact racewaylaw8_routed.mono _ _ _ _ _ _
   | exact racewaylaw8_same.mono _ _ _
   | exact racewaylaw8_shown.mono _
   | exact racewayref5_Same.mono _ _ _
   | exact residual_Push.mono _ _ _ _ _ _ _ _
   | exact residual_Room.mono _ _ _ _ _ _
   | exact LeO.none _
   | refine LeO.ite ?_ ?_
   | refine LeO.bind ?_ (fun _ => ?_)
  ·intro y0 y1 y2 y3 y4 y5 y6 y7 y8 y9 y10 y11 y12
   unfold racewaylaw8_PlainBlocks.l0
   repeat' first
   | (with_reducible exact ih0 _ _ _ _ _ _ _ _ _ _ _ _)
   | (with_reducible exact ih1 _ _ _ _ _ _ _ _ _ _ _)
   | (with_reducible exact ih2 _ _ _ _ _ _ _ _ _ _ _ _ _)
   | (with_reducible exact ih3 _ _ _ _ _ _ _ _ _ _ _ _ _ _ _ _ _ _)
   | (with_reducible exact flow_Check.mono _ _ _ _ _ _)
   | (with_reducible exact flow_Value.mono _ _ _ _ _ _)
   | (with_reducible exact level_Deep.mono _ _ _ _ _ _ _)
   | (with_reducible exact level_Leads.mono _ _ _ _ _ _ _)
   | (with_reducible exact plain_Block.mono _ _ _ _ _ _ _)
   | (with_reducible exact plain_Next.mono _ _ _ _ _ _ _ _)
   | (with_reducible exact racewaylaw8_made.mono _ _ _ _)
   | (with_reducible exact racewaylaw8_routed.mono _ _ _ _ _ _)
   | (with_reducible exact racewaylaw8_same.mono _ _ _)
   | (with_reducible exact racewaylaw8_shown.mono _)
   | (with_reducible exact racewayref5_Same.mono _ _ _)
   | (with_reducible exact residual_Push.mono _ _ _ _ _ _ _ _)
   | (with_reducible exact residual_Room.mono _ _ _ _ _ _)
   | (with_reducible exact LeO.refl _)
   | (with_reducible exact LeO.none _)
   | (with_reducible refine LeO.ite ?_ ?_)
   | (with_reducible refine LeO.bind ?_ (fun _ => ?_))
   | exact ih0 _ _ _ _ _ _ _ _ _ _ _ _
   | exact ih1 _ _ _ _ _ _ _ _ _ _ _
   | exact ih2 _ _ _ _ _ _ _ _ _ _ _ _ _
   | exact ih3 _ _ _ _ _ _ _ _ _ _ _ _ _ _ _ _ _ _
   | exact flow_Check.mono _ _ _ _ _ _
   | exact flow_Value.mono _ _ _ _ _ _
   | exact level_Deep.mono _ _ _ _ _ _ _
   | exact level_Leads.mono _ _ _ _ _ _ _
   | exact plain_Block.mono _ _ _ _ _ _ _
   | exact plain_Next.mono _ _ _ _ _ _ _ _
   | exact racewaylaw8_made.mono _ _ _ _
   | exact racewaylaw8_routed.mono _ _ _ _ _ _
   | exact racewaylaw8_same.mono _ _ _
   | exact racewaylaw8_shown.mono _
   | exact racewayref5_Same.mono _ _ _
   | exact residual_Push.mono _ _ _ _ _ _ _ _
   | exact residual_Room.mono _ _ _ _ _ _
   | exact LeO.none _
   | refine LeO.ite ?_ ?_
   | refine LeO.bind ?_ (fun _ => ?_)
  ·intro y0 y1 y2 y3 y4 y5 y6 y7 y8 y9 y10 y11 y12 y13 y14 y15 y16 y17
   unfold racewaylaw8_PlainBlocks.l1
   repeat' first
   | (with_reducible exact ih0 _ _ _ _ _ _ _ _ _ _ _ _)
   | (with_reducible exact ih1 _ _ _ _ _ _ _ _ _ _ _)
   | (with_reducible exact ih2 _ _ _ _ _ _ _ _ _ _ _ _ _)
   | (with_reducible exact ih3 _ _ _ _ _ _ _ _ _ _ _ _ _ _ _ _ _ _)
   | (with_reducible exact flow_Check.mono _ _ _ _ _ _)
   | (with_reducible exact flow_Value.mono _ _ _ _ _ _)
   | (with_reducible exact level_Deep.mono _ _ _ _ _ _ _)
   | (with_reducible exact level_Leads.mono _ _ _ _ _ _ _)
   | (with_reducible exact plain_Block.mono _ _ _ _ _ _ _)
   | (with_reducible exact plain_Next.mono _ _ _ _ _ _ _ _)
   | (with_reducible exact racewaylaw8_made.mono _ _ _ _)
   | (with_reducible exact racewaylaw8_routed.mono _ _ _ _ _ _)
   | (with_reducible exact racewaylaw8_same.mono _ _ _)
   | (with_reducible exact racewaylaw8_shown.mono _)
   | (with_reducible exact racewayref5_Same.mono _ _ _)
   | (with_reducible exact residual_Push.mono _ _ _ _ _ _ _ _)
   | (with_reducible exact residual_Room.mono _ _ _ _ _ _)
   | (with_reducible exact LeO.refl _)
   | (with_reducible exact LeO.none _)
   | (with_reducible refine LeO.ite ?_ ?_)
   | (with_reducible refine LeO.bind ?_ (fun _ => ?_))
   | exact ih0 _ _ _ _ _ _ _ _ _ _ _ _
   | exact ih1 _ _ _ _ _ _ _ _ _ _ _
   | exact ih2 _ _ _ _ _ _ _ _ _ _ _ _ _
   | exact ih3 _ _ _ _ _ _ _ _ _ _ _ _ _ _ _ _ _ _
   | exact flow_Check.mono _ _ _ _ _ _
   | exact flow_Value.mono _ _ _ _ _ _
   | exact level_Deep.mono _ _ _ _ _ _ _
   | exact level_Leads.mono _ _ _ _ _ _ _
   | exact plain_Block.mono _ _ _ _ _ _ _
   | exact plain_Next.mono _ _ _ _ _ _ _ _
   | exact racewaylaw8_made.mono _ _ _ _
   | exact racewaylaw8_routed.mono _ _ _ _ _ _
   | exact racewaylaw8_same.mono _ _ _
   | exact racewaylaw8_shown.mono _
   | exact racewayref5_Same.mono _ _ _
   | exact residual_Push.mono _ _ _ _ _ _ _ _
   | exact residual_Room.mono _ _ _ _ _ _
   | exact LeO.none _
   | refine LeO.ite ?_ ?_
   | refine LeO.bind ?_ (fun _ => ?_)
theorem racewaylaw8_PlainBlocks.mono : ∀ a0 a1 a2 a3 a4 k, LeO (racewaylaw8_PlainBlocks.f k a0 a1 a2 a3 a4) (racewaylaw8_PlainBlocks.f (k + 1) a0 a1 a2 a3 a4) := by
 intro a0 a1 a2 a3 a4 k; (obtain ⟨ih0, ih1, ih2, ih3⟩ := racewaylaw8_PlainBlocks.mono_l k); (unfold racewaylaw8_PlainBlocks.f)
 repeat' first
   | (with_reducible exact ih0 _ _ _ _ _ _ _ _ _ _ _ _)
   | (with_reducible exact ih1 _ _ _ _ _ _ _ _ _ _ _)
   | (with_reducible exact ih2 _ _ _ _ _ _ _ _ _ _ _ _ _)
   | (with_reducible exact ih3 _ _ _ _ _ _ _ _ _ _ _ _ _ _ _ _ _ _)
   | (with_reducible exact flow_Check.mono _ _ _ _ _ _)
   | (with_reducible exact flow_Value.mono _ _ _ _ _ _)
   | (with_reducible exact level_Deep.mono _ _ _ _ _ _ _)
   | (with_reducible exact level_Leads.mono _ _ _ _ _ _ _)
   | (with_reducible exact plain_Block.mono _ _ _ _ _ _ _)
   | (with_reducible exact plain_Next.mono _ _ _ _ _ _ _ _)
   | (with_reducible exact racewaylaw8_made.mono _ _ _ _)
   | (with_reducible exact racewaylaw8_routed.mono _ _ _ _ _ _)
   | (with_reducible exact racewaylaw8_same.mono _ _ _)
   | (with_reducible exact racewaylaw8_shown.mono _)
   | (with_reducible exact racewayref5_Same.mono _ _ _)
   | (with_reducible exact residual_Push.mono _ _ _ _ _ _ _ _)
   | (with_reducible exact residual_Room.mono _ _ _ _ _ _)
   | (with_reducible exact LeO.refl _)
   | (with_reducible exact LeO.none _)
   | (with_reducible refine LeO.ite ?_ ?_)
   | (with_reducible refine LeO.bind ?_ (fun _ => ?_))
   | exact ih0 _ _ _ _ _ _ _ _ _ _ _ _
   | exact ih1 _ _ _ _ _ _ _ _ _ _ _
   | exact ih2 _ _ _ _ _ _ _ _ _ _ _ _ _
   | exact ih3 _ _ _ _ _ _ _ _ _ _ _ _ _ _ _ _ _ _
   | exact flow_Check.mono _ _ _ _ _ _
   | exact flow_Value.mono _ _ _ _ _ _
   | exact level_Deep.mono _ _ _ _ _ _ _
   | exact level_Leads.mono _ _ _ _ _ _ _
   | exact plain_Block.mono _ _ _ _ _ _ _
   | exact plain_Next.mono _ _ _ _ _ _ _ _
   | exact racewaylaw8_made.mono _ _ _ _
   | exact racewaylaw8_routed.mono _ _ _ _ _ _
   | exact racewaylaw8_same.mono _ _ _
   | exact racewaylaw8_shown.mono _
   | exact racewayref5_Same.mono _ _ _
   | exact residual_Push.mono _ _ _ _ _ _ _ _
   | exact residual_Room.mono _ _ _ _ _ _
   | exact LeO.none _
   | refine LeO.ite ?_ ?_
   | refine LeO.bind ?_ (fun _ => ?_)
def racewaylaw8_PlainBlocks.T27 : Bool × List (List Nat × List Nat) := (true, [([], []), ([], []), ([], []), ([], []), ([2, 3], [2, 3]), ([4], [4]), ([5], [5]), ([], []), ([], []), ([7, 8], [7, 8]), ([9], [9]), ([10], [10]), ([0, 1, 6, 11], [0, 1, 6, 11]), ([12], [12]), ([13], [13]), ([13], [13]), ([14, 12, 0, 1, 2, 3, 4, 5, 6, 7, 8, 9, 10, 11, 12, 13, 14], [14]), ([15, 16, 0, 1, 2, 3, 4, 5, 6, 7, 8, 9, 10, 11, 12, 13, 14, 15, 16], [15])])
def racewaylaw8_PlainBlocks.B27 : List Nat := [0, 0, 0, 0, 12, 28, 60, 0, 0, 384, 896, 1920, 4095, 8191, 16383, 16383, 32767, 131071]
theorem racewaylaw8_PlainBlocks.tab27 : rtab .any (opsOf Try.f12 27) = racewaylaw8_PlainBlocks.T27 := by kernel_rfl
theorem racewaylaw8_PlainBlocks.bits27 : waitsOk racewaylaw8_PlainBlocks.T27.2 racewaylaw8_PlainBlocks.B27 = true := by kernel_rfl
set_option maxHeartbeats 8000000 in
set_option maxRecDepth 100000 in
theorem racewaylaw8_PlainBlocks.calls (k : Nat) (a0 : Int) (a1 : Int) (A2 : Option Addr) (c2 : Nat) (l2 : List (S91)) (A3 : Option Addr) (c3 : Nat) (l3 : List Int) (a4 : Int) (r : Bool) (w : World) (hr2 : Kd.C k91 w A2 l2.length l2) (hc2 : l2.length ≤ c2) (hr3 : Kd.C (Kd.int .i64) w A3 l3.length l3) (hc3 : l3.length ≤ c3) (h : racewaylaw8_PlainBlocks.f k a0 a1 l2 l3 a4 = some r) (hrT_ : Aside0 (r = true)) :
  Calls Try.prog 12 #[.int .i64 a0, .int .i64 a1, .slice A2 l2.length c2, .slice A3 l3.length c3, .int .i64 a4] w fun e w' => e = .returned (.bool r) ∧ Below w.heap.size w w' := by
 (have hu26 := Try.underlying26); (have HR2 := Aside0.mk hr2); (have HC2 := Aside0.mk hc2); clear hr2 hc2; (have HR3 := Aside0.mk hr3); (have HC3 := Aside0.mk hc3); clear hr3 hc3; (have HB := Aside0.mk (Below.refl w.heap.size w)); (have H : ((racewaylaw8_shown.f k).bind fun t253 => (if t253 = true then ((racewaylaw8_made.f k a0 a1 l2).bind fun bt254 => ((racewaylaw8_routed.f k bt254.1 bt254.2.1 bt254.2.2.1 bt254.2.2.2 l3).bind fun t261 => ((racewaylaw8_pick.f a4 10).bind fun t264 => ((plain_Block.f k bt254.1 bt254.2.1 bt254.2.2.1 bt254.2.2.2 t261 (wrap64 (1 + t264))).bind fun bt265 => ((level_Deep.f k bt254.1 bt254.2.1 bt254.2.2.1 bt254.2.2.2 t261 (wrap64 (1 + t264))).bind fun bt272 => ((level_Deep.f k bt254.1 bt254.2.1 bt254.2.2.1 bt254.2.2.2 bt265.1 (wrap64 (1 + t264))).bind fun bt274 => ((level_Leads.f k bt254.1 bt254.2.1 bt254.2.2.1 bt254.2.2.2 t261 (wrap64 (1 + t264))).bind fun bt276 => (if bt265.2.2 = 0 then (if bt272.2 = 0 then (if bt274.2 = 0 then (if bt276.2 = 0 then ((flow_Check.f k bt254.1 bt254.2.1 bt254.2.2.1 bt254.2.2.2 bt265.1).bind fun t280 => (racewaylaw8_PlainBlocks.j0 k t261 (wrap64 (1 + t264)) bt265.1 bt265.2.1 bt272.1 bt274.1 bt276.1 (t280 != 0) bt254.1 bt254.2.1 bt254.2.2.1 bt254.2.2.2)) else (racewaylaw8_PlainBlocks.j0 k t261 (wrap64 (1 + t264)) bt265.1 bt265.2.1 bt272.1 bt274.1 bt276.1 true bt254.1 bt254.2.1 bt254.2.2.1 bt254.2.2.2)) else (racewaylaw8_PlainBlocks.j0 k t261 (wrap64 (1 + t264)) bt265.1 bt265.2.1 bt272.1 bt274.1 bt276.1 true bt254.1 bt254.2.1 bt254.2.2.1 bt254.2.2.2)) else (racewaylaw8_PlainBlocks.j0 k t261 (wrap64 (1 + t264)) bt265.1 bt265.2.1 bt272.1 bt274.1 bt276.1 true bt254.1 bt254.2.1 bt254.2.2.1 bt254.2.2.2)) else (racewaylaw8_PlainBlocks.j0 k t261 (wrap64 (1 + t264)) bt265.1 bt265.2.1 bt272.1 bt274.1 bt276.1 true bt254.1 bt254.2.1 bt254.2.2.1 bt254.2.2.2))))))))) else (some false))) = some r := h); clear h; (replace H := Option.bind_eq_some_iff.mp H); (obtain ⟨t253, A60, H⟩ := H); (replace H : (if t253 = true then ((racewaylaw8_made.f k a0 a1 l2).bind fun bt254 => ((racewaylaw8_routed.f k bt254.1 bt254.2.1 bt254.2.2.1 bt254.2.2.2 l3).bind fun t261 => ((racewaylaw8_pick.f a4 10).bind fun t264 => ((plain_Block.f k bt254.1 bt254.2.1 bt254.2.2.1 bt254.2.2.2 t261 (wrap64 (1 + t264))).bind fun bt265 => ((level_Deep.f k bt254.1 bt254.2.1 bt254.2.2.1 bt254.2.2.2 t261 (wrap64 (1 + t264))).bind fun bt272 => ((level_Deep.f k bt254.1 bt254.2.1 bt254.2.2.1 bt254.2.2.2 bt265.1 (wrap64 (1 + t264))).bind fun bt274 => ((level_Leads.f k bt254.1 bt254.2.1 bt254.2.2.1 bt254.2.2.2 t261 (wrap64 (1 + t264))).bind fun bt276 => (if bt265.2.2 = 0 then (if bt272.2 = 0 then (if bt274.2 = 0 then (if bt276.2 = 0 then ((flow_Check.f k bt254.1 bt254.2.1 bt254.2.2.1 bt254.2.2.2 bt265.1).bind fun t280 => (racewaylaw8_PlainBlocks.j0 k t261 (wrap64 (1 + t264)) bt265.1 bt265.2.1 bt272.1 bt274.1 bt276.1 (t280 != 0) bt254.1 bt254.2.1 bt254.2.2.1 bt254.2.2.2)) else (racewaylaw8_PlainBlocks.j0 k t261 (wrap64 (1 + t264)) bt265.1 bt265.2.1 bt272.1 bt274.1 bt276.1 true bt254.1 bt254.2.1 bt254.2.2.1 bt254.2.2.2)) else (racewaylaw8_PlainBlocks.j0 k t261 (wrap64 (1 + t264)) bt265.1 bt265.2.1 bt272.1 bt274.1 bt276.1 true bt254.1 bt254.2.1 bt254.2.2.1 bt254.2.2.2)) else (racewaylaw8_PlainBlocks.j0 k t261 (wrap64 (1 + t264)) bt265.1 bt265.2.1 bt272.1 bt274.1 bt276.1 true bt254.1 bt254.2.1 bt254.2.2.1 bt254.2.2.2)) else (racewaylaw8_PlainBlocks.j0 k t261 (wrap64 (1 + t264)) bt265.1 bt265.2.1 bt272.1 bt274.1 bt276.1 true bt254.1 bt254.2.1 bt254.2.2.1 bt254.2.2.2))))))))) else (some false)) = some r := H); (have A6 := Aside0.mk A60); clear A60; (by_cases c7 : t253 = true)
 ·subst c7
  (have H1 : ((racewaylaw8_made.f k a0 a1 l2).bind fun bt254 => ((racewaylaw8_routed.f k bt254.1 bt254.2.1 bt254.2.2.1 bt254.2.2.2 l3).bind fun t261 => ((racewaylaw8_pick.f a4 10).bind fun t264 => ((plain_Block.f k bt254.1 bt254.2.1 bt254.2.2.1 bt254.2.2.2 t261 (wrap64 (1 + t264))).bind fun bt265 => ((level_Deep.f k bt254.1 bt254.2.1 bt254.2.2.1 bt254.2.2.2 t261 (wrap64 (1 + t264))).bind fun bt272 => ((level_Deep.f k bt254.1 bt254.2.1 bt254.2.2.1 bt254.2.2.2 bt265.1 (wrap64 (1 + t264))).bind fun bt274 => ((level_Leads.f k bt254.1 bt254.2.1 bt254.2.2.1 bt254.2.2.2 t261 (wrap64 (1 + t264))).bind fun bt276 => (if bt265.2.2 = 0 then (if bt272.2 = 0 then (if bt274.2 = 0 then (if bt276.2 = 0 then ((flow_Check.f k bt254.1 bt254.2.1 bt254.2.2.1 bt254.2.2.2 bt265.1).bind fun t280 => (racewaylaw8_PlainBlocks.j0 k t261 (wrap64 (1 + t264)) bt265.1 bt265.2.1 bt272.1 bt274.1 bt276.1 (t280 != 0) bt254.1 bt254.2.1 bt254.2.2.1 bt254.2.2.2)) else (racewaylaw8_PlainBlocks.j0 k t261 (wrap64 (1 + t264)) bt265.1 bt265.2.1 bt272.1 bt274.1 bt276.1 true bt254.1 bt254.2.1 bt254.2.2.1 bt254.2.2.2)) else (racewaylaw8_PlainBlocks.j0 k t261 (wrap64 (1 + t264)) bt265.1 bt265.2.1 bt272.1 bt274.1 bt276.1 true bt254.1 bt254.2.1 bt254.2.2.1 bt254.2.2.2)) else (racewaylaw8_PlainBlocks.j0 k t261 (wrap64 (1 + t264)) bt265.1 bt265.2.1 bt272.1 bt274.1 bt276.1 true bt254.1 bt254.2.1 bt254.2.2.1 bt254.2.2.2)) else (racewaylaw8_PlainBlocks.j0 k t261 (wrap64 (1 + t264)) bt265.1 bt265.2.1 bt272.1 bt274.1 bt276.1 true bt254.1 bt254.2.1 bt254.2.2.1 bt254.2.2.2))))))))) = some r := by rw [if_pos rfl] at H; exact H); clear H; (have H := H1); clear H1; (replace H := Option.bind_eq_some_iff.mp H); (obtain ⟨⟨t254, t255, t256, t257⟩, A80, H⟩ := H); (replace H : ((racewaylaw8_routed.f k t254 t255 t256 t257 l3).bind fun t261 => ((racewaylaw8_pick.f a4 10).bind fun t264 => ((plain_Block.f k t254 t255 t256 t257 t261 (wrap64 (1 + t264))).bind fun bt265 => ((level_Deep.f k t254 t255 t256 t257 t261 (wrap64 (1 + t264))).bind fun bt272 => ((level_Deep.f k t254 t255 t256 t257 bt265.1 (wrap64 (1 + t264))).bind fun bt274 => ((level_Leads.f k t254 t255 t256 t257 t261 (wrap64 (1 + t264))).bind fun bt276 => (if bt265.2.2 = 0 then (if bt272.2 = 0 then (if bt274.2 = 0 then (if bt276.2 = 0 then ((flow_Check.f k t254 t255 t256 t257 bt265.1).bind fun t280 => (racewaylaw8_PlainBlocks.j0 k t261 (wrap64 (1 + t264)) bt265.1 bt265.2.1 bt272.1 bt274.1 bt276.1 (t280 != 0) t254 t255 t256 t257)) else (racewaylaw8_PlainBlocks.j0 k t261 (wrap64 (1 + t264)) bt265.1 bt265.2.1 bt272.1 bt274.1 bt276.1 true t254 t255 t256 t257)) else (racewaylaw8_PlainBlocks.j0 k t261 (wrap64 (1 + t264)) bt265.1 bt265.2.1 bt272.1 bt274.1 bt276.1 true t254 t255 t256 t257)) else (racewaylaw8_PlainBlocks.j0 k t261 (wrap64 (1 + t264)) bt265.1 bt265.2.1 bt272.1 bt274.1 bt276.1 true t254 t255 t256 t257)) else (racewaylaw8_PlainBlocks.j0 k t261 (wrap64 (1 + t264)) bt265.1 bt265.2.1 bt272.1 bt274.1 bt276.1 true t254 t255 t256 t257)))))))) = some r := H); (have A8 := Aside0.mk A80); clear A80; (replace H := Option.bind_eq_some_iff.mp H); (obtain ⟨t261, A90, H⟩ := H); (replace H : ((racewaylaw8_pick.f a4 10).bind fun t264 => ((plain_Block.f k t254 t255 t256 t257 t261 (wrap64 (1 + t264))).bind fun bt265 => ((level_Deep.f k t254 t255 t256 t257 t261 (wrap64 (1 + t264))).bind fun bt272 => ((level_Deep.f k t254 t255 t256 t257 bt265.1 (wrap64 (1 + t264))).bind fun bt274 => ((level_Leads.f k t254 t255 t256 t257 t261 (wrap64 (1 + t264))).bind fun bt276 => (if bt265.2.2 = 0 then (if bt272.2 = 0 then (if bt274.2 = 0 then (if bt276.2 = 0 then ((flow_Check.f k t254 t255 t256 t257 bt265.1).bind fun t280 => (racewaylaw8_PlainBlocks.j0 k t261 (wrap64 (1 + t264)) bt265.1 bt265.2.1 bt272.1 bt274.1 bt276.1 (t280 != 0) t254 t255 t256 t257)) else (racewaylaw8_PlainBlocks.j0 k t261 (wrap64 (1 + t264)) bt265.1 bt265.2.1 bt272.1 bt274.1 bt276.1 true t254 t255 t256 t257)) else (racewaylaw8_PlainBlocks.j0 k t261 (wrap64 (1 + t264)) bt265.1 bt265.2.1 bt272.1 bt274.1 bt276.1 true t254 t255 t256 t257)) else (racewaylaw8_PlainBlocks.j0 k t261 (wrap64 (1 + t264)) bt265.1 bt265.2.1 bt272.1 bt274.1 bt276.1 true t254 t255 t256 t257)) else (racewaylaw8_PlainBlocks.j0 k t261 (wrap64 (1 + t264)) bt265.1 bt265.2.1 bt272.1 bt274.1 bt276.1 true t254 t255 t256 t257))))))) = some r := H); (have A9 := Aside0.mk A90); clear A90; (replace H := Option.bind_eq_some_iff.mp H); (obtain ⟨t264, A100, H⟩ := H); (replace H : ((plain_Block.f k t254 t255 t256 t257 t261 (wrap64 (1 + t264))).bind fun bt265 => ((level_Deep.f k t254 t255 t256 t257 t261 (wrap64 (1 + t264))).bind fun bt272 => ((level_Deep.f k t254 t255 t256 t257 bt265.1 (wrap64 (1 + t264))).bind fun bt274 => ((level_Leads.f k t254 t255 t256 t257 t261 (wrap64 (1 + t264))).bind fun bt276 => (if bt265.2.2 = 0 then (if bt272.2 = 0 then (if bt274.2 = 0 then (if bt276.2 = 0 then ((flow_Check.f k t254 t255 t256 t257 bt265.1).bind fun t280 => (racewaylaw8_PlainBlocks.j0 k t261 (wrap64 (1 + t264)) bt265.1 bt265.2.1 bt272.1 bt274.1 bt276.1 (t280 != 0) t254 t255 t256 t257)) else (racewaylaw8_PlainBlocks.j0 k t261 (wrap64 (1 + t264)) bt265.1 bt265.2.1 bt272.1 bt274.1 bt276.1 true t254 t255 t256 t257)) else (racewaylaw8_PlainBlocks.j0 k t261 (wrap64 (1 + t264)) bt265.1 bt265.2.1 bt272.1 bt274.1 bt276.1 true t254 t255 t256 t257)) else (racewaylaw8_PlainBlocks.j0 k t261 (wrap64 (1 + t264)) bt265.1 bt265.2.1 bt272.1 bt274.1 bt276.1 true t254 t255 t256 t257)) else (racewaylaw8_PlainBlocks.j0 k t261 (wrap64 (1 + t264)) bt265.1 bt265.2.1 bt272.1 bt274.1 bt276.1 true t254 t255 t256 t257)))))) = some r := H); (have A10 := Aside0.mk A100); clear A100; (replace H := Option.bind_eq_some_iff.mp H); (obtain ⟨⟨t265, t268, t271⟩, A110, H⟩ := H); (replace H : ((level_Deep.f k t254 t255 t256 t257 t261 (wrap64 (1 + t264))).bind fun bt272 => ((level_Deep.f k t254 t255 t256 t257 t265 (wrap64 (1 + t264))).bind fun bt274 => ((level_Leads.f k t254 t255 t256 t257 t261 (wrap64 (1 + t264))).bind fun bt276 => (if t271 = 0 then (if bt272.2 = 0 then (if bt274.2 = 0 then (if bt276.2 = 0 then ((flow_Check.f k t254 t255 t256 t257 t265).bind fun t280 => (racewaylaw8_PlainBlocks.j0 k t261 (wrap64 (1 + t264)) t265 t268 bt272.1 bt274.1 bt276.1 (t280 != 0) t254 t255 t256 t257)) else (racewaylaw8_PlainBlocks.j0 k t261 (wrap64 (1 + t264)) t265 t268 bt272.1 bt274.1 bt276.1 true t254 t255 t256 t257)) else (racewaylaw8_PlainBlocks.j0 k t261 (wrap64 (1 + t264)) t265 t268 bt272.1 bt274.1 bt276.1 true t254 t255 t256 t257)) else (racewaylaw8_PlainBlocks.j0 k t261 (wrap64 (1 + t264)) t265 t268 bt272.1 bt274.1 bt276.1 true t254 t255 t256 t257)) else (racewaylaw8_PlainBlocks.j0 k t261 (wrap64 (1 + t264)) t265 t268 bt272.1 bt274.1 bt276.1 true t254 t255 t256 t257))))) = some r := H)
  (have A11 := Aside0.mk A110); clear A110; (replace H := Option.bind_eq_some_iff.mp H); (obtain ⟨⟨t272, t273⟩, A120, H⟩ := H); (replace H : ((level_Deep.f k t254 t255 t256 t257 t265 (wrap64 (1 + t264))).bind fun bt274 => ((level_Leads.f k t254 t255 t256 t257 t261 (wrap64 (1 + t264))).bind fun bt276 => (if t271 = 0 then (if t273 = 0 then (if bt274.2 = 0 then (if bt276.2 = 0 then ((flow_Check.f k t254 t255 t256 t257 t265).bind fun t280 => (racewaylaw8_PlainBlocks.j0 k t261 (wrap64 (1 + t264)) t265 t268 t272 bt274.1 bt276.1 (t280 != 0) t254 t255 t256 t257)) else (racewaylaw8_PlainBlocks.j0 k t261 (wrap64 (1 + t264)) t265 t268 t272 bt274.1 bt276.1 true t254 t255 t256 t257)) else (racewaylaw8_PlainBlocks.j0 k t261 (wrap64 (1 + t264)) t265 t268 t272 bt274.1 bt276.1 true t254 t255 t256 t257)) else (racewaylaw8_PlainBlocks.j0 k t261 (wrap64 (1 + t264)) t265 t268 t272 bt274.1 bt276.1 true t254 t255 t256 t257)) else (racewaylaw8_PlainBlocks.j0 k t261 (wrap64 (1 + t264)) t265 t268 t272 bt274.1 bt276.1 true t254 t255 t256 t257)))) = some r := H); (have A12 := Aside0.mk A120); clear A120; (replace H := Option.bind_eq_some_iff.mp H); (obtain ⟨⟨t274, t275⟩, A130, H⟩ := H); (replace H : ((level_Leads.f k t254 t255 t256 t257 t261 (wrap64 (1 + t264))).bind fun bt276 => (if t271 = 0 then (if t273 = 0 then (if t275 = 0 then (if bt276.2 = 0 then ((flow_Check.f k t254 t255 t256 t257 t265).bind fun t280 => (racewaylaw8_PlainBlocks.j0 k t261 (wrap64 (1 + t264)) t265 t268 t272 t274 bt276.1 (t280 != 0) t254 t255 t256 t257)) else (racewaylaw8_PlainBlocks.j0 k t261 (wrap64 (1 + t264)) t265 t268 t272 t274 bt276.1 true t254 t255 t256 t257)) else (racewaylaw8_PlainBlocks.j0 k t261 (wrap64 (1 + t264)) t265 t268 t272 t274 bt276.1 true t254 t255 t256 t257)) else (racewaylaw8_PlainBlocks.j0 k t261 (wrap64 (1 + t264)) t265 t268 t272 t274 bt276.1 true t254 t255 t256 t257)) else (racewaylaw8_PlainBlocks.j0 k t261 (wrap64 (1 + t264)) t265 t268 t272 t274 bt276.1 true t254 t255 t256 t257))) = some r := H); (have A13 := Aside0.mk A130); clear A130; (replace H := Option.bind_eq_some_iff.mp H); (obtain ⟨⟨t276, t279⟩, A140, H⟩ := H); (replace H : (if t271 = 0 then (if t273 = 0 then (if t275 = 0 then (if t279 = 0 then ((flow_Check.f k t254 t255 t256 t257 t265).bind fun t280 => (racewaylaw8_PlainBlocks.j0 k t261 (wrap64 (1 + t264)) t265 t268 t272 t274 t276 (t280 != 0) t254 t255 t256 t257)) else (racewaylaw8_PlainBlocks.j0 k t261 (wrap64 (1 + t264)) t265 t268 t272 t274 t276 true t254 t255 t256 t257)) else (racewaylaw8_PlainBlocks.j0 k t261 (wrap64 (1 + t264)) t265 t268 t272 t274 t276 true t254 t255 t256 t257)) else (racewaylaw8_PlainBlocks.j0 k t261 (wrap64 (1 + t264)) t265 t268 t272 t274 t276 true t254 t255 t256 t257)) else (racewaylaw8_PlainBlocks.j0 k t261 (wrap64 (1 + t264)) t265 t268 t272 t274 t276 true t254 t255 t256 t257)) = some r := H); (have A14 := Aside0.mk A140); clear A140; (have HC15 := Aside0.mk H); clear H; (go_enter Try.func12, Try.ntmps12); (go_upto_region 11 with (first | ((with_reducible refine gate_callee (f := 24) rfl ?_); refine goesL_ (some 41) rfl rfl Try.func24 (by kernel_rfl) rfl #[] rfl (by (try simp only [List.map_toArray, List.map_cons, List.map_nil]); first | done | rfl | (simp only [List.length_drop, List.length_take]; rfl)) ?_; (with_reducible refine (racewaylaw8_shown.calls k  true _ A6.out).mono ?_); rintro e w16 ⟨rfl, hb⟩; refine ⟨_, rfl, ?_⟩; have n0_ := Aside0.mk (below_step (by repeat (first | (with_reducible first | exact HB.out | apply below_alloc | apply pw_below_drewN | apply below_drew1) | exact HB.out)) hb); clear HB; have HB := n0_; clear n0_; (try clear hb); (try clear hk)) | ((with_reducible refine gate_callee (f := 25) rfl ?_); refine goesL_ (some 47) rfl rfl Try.func25 (by kernel_rfl) rfl #[.int .i64 a0, .int .i64 a1, .slice A2 l2.length c2] rfl (by (try simp only [List.map_toArray, List.map_cons, List.map_nil]); first | done | rfl | (simp only [List.length_drop, List.length_take]; rfl)) ?_; (with_reducible refine (racewaylaw8_made.calls k a0 a1 _ _ l2 t254 t255 t256 t257 _ ?side1 ?side2 A8.out).mono ?_); (case side1 => repeat (first | exact (Kd.C_below HR2.out HB.out) | (with_reducible refine Kd.C_alloc ?_ _) | (with_reducible refine Kd.C_drewN ?_ _) | (with_reducible refine Kd.C_drew ?_))); (case side2 => exact HC2.out); rintro e w17 ⟨v258, rfl, ho0, hb⟩; refine ⟨_, rfl, ?_⟩; have n0_ := Aside0.mk (Kd.R_lower ho0 (below_size (by repeat (first | (with_reducible first | exact HB.out | apply below_alloc | apply pw_below_drewN | apply below_drew1) | exact HB.out)))); have n1_ := Aside0.mk (below_step (by repeat (first | (with_reducible first | exact HB.out | apply below_alloc | apply pw_below_drewN | apply below_drew1) | exact HB.out)) hb); clear HB; have HO259 := n0_; have HB := n1_; clear n0_ n1_; (try clear hb); (try clear hk); (try clear ho0)) | ((with_reducible refine gate_dst (N := 12) rfl ?_); (try (refine gate_guard (by rfl) ?_; dsimp only)); refine box_event ?hg (N := 12) ?hd (cs := #[.int .i64 0, .int .i64 0, .int .i64 0, .slice none 0 0]) (t := 26) ?hr ?_; (case hd => rfl); (case hg => rfl); (case hr => first | (go_simp; done) | (go_simp; rfl)); intro gb260 hg w18 hbox hb; have n0_ := Aside0.mk (Kd.R_below (by (with_reducible repeat first | apply Kd.R_alloc | apply Kd.R_drewN | apply Kd.R_drew); exact HO259.out) hb); have n1_ := Aside0.mk (below_step (by repeat (first | (with_reducible first | exact HB.out | apply below_alloc | apply pw_below_drewN | apply below_drew1) | exact HB.out)) hb); have n2_ := Aside0.mk (hbox); have n3_ := Aside0.mk ((by rw [hg]; exact (below_size (by repeat (first | (with_reducible first | exact HB.out | apply below_alloc | apply pw_below_drewN | apply below_drew1) | exact HB.out))) : w.heap.size ≤ gb260)); have n4_ := Aside0.mk ((by rw [hg]; exact (below_size (by repeat (first | (with_reducible first | exact HB.out | apply below_alloc | apply pw_below_drewN | apply below_drew1) | exact HB.out))) : w.heap.size ≤ gb260)); clear HO259; clear HB; have HO259 := n0_; have HB := n1_; have BK260 := n2_; have GW260 := n3_; have GE260 := n4_; clear n0_ n1_ n2_ n3_ n4_; clear hb hbox hg; have hcz19_0 : w18.cell? ⟨gb260, 0, none⟩ = some (.int .i64 0) := (blk_cell BK260.out 0).trans rfl; have hcz19_1 : w18.cell? ⟨gb260, 1, none⟩ = some (.int .i64 0) := (blk_cell BK260.out 1).trans rfl; have hcz19_2 : w18.cell? ⟨gb260, 2, none⟩ = some (.int .i64 0) := (blk_cell BK260.out 2).trans rfl; have hcz19_3 : w18.cell? ⟨gb260, 3, none⟩ = some (.slice none 0 0) := (blk_cell BK260.out 3).trans rfl; have hfz19_0 := blk_frozen BK260.out 0; have hfz19_1 := blk_frozen BK260.out 1; have hfz19_2 := blk_frozen BK260.out 2; have hfz19_3 := blk_frozen BK260.out 3; obtain ⟨Ao20, co20, eo20⟩ := Kd.R_slice HO259.out; subst eo20) | ((with_reducible refine gate_callee (f := 26) rfl ?_); refine goesL_ (some 50) rfl rfl Try.func26 (by kernel_rfl) rfl #[.agg #[.int .i64 t254, .int .i64 t255, .int .i64 t256, .slice Ao20 t257.length co20], .slice A3 l3.length c3] rfl (by (try simp only [List.map_toArray, List.map_cons, List.map_nil]); first | done | rfl | (simp only [List.length_drop, List.length_take]; rfl)) ?_; (with_reducible refine (racewaylaw8_routed.calls k t254 t255 t256 _ _ t257 _ _ l3 t261 _ ?side1 ?side2 ?side3 ?side4 A9.out).mono ?_); (case side1 => refine (Kd.R_reads' (e := 30) (base := w.heap.size) (ok := fun k_ => True) (n := t257.length) (c := co20) ?_).2.2; exact (by (with_reducible repeat first | apply Kd.R_alloc | apply Kd.R_drewN | apply Kd.R_drew); exact (Kd.R_mono (Kd.R_far (p := ⟨gb260, 3, none⟩) (Kd.R_far (p := ⟨gb260, 2, none⟩) (Kd.R_far (p := ⟨gb260, 1, none⟩) (Kd.R_far (p := ⟨gb260, 0, none⟩) (Kd.R_types HO259.out BK260.out (by decide)) (fun _ hk => hk.2) (.int .i64 t254)) (fun _ hk => hk.2) (.int .i64 t255)) (fun _ hk => hk.2) (.int .i64 t256)) (fun _ hk => hk.2) (.slice Ao20 t257.length co20)) (fun _ h_ => h_.1)))); (case side2 => exact (Kd.R_reads' HO259.out).2.1); (case side3 => exact Kd.C_below HR3.out (by repeat (first | (with_reducible first | exact HB.out | apply below_alloc | apply pw_below_drewN | apply below_drew1 | refine below_set ?_ GE260.out) | exact HB.out))); (case side4 => exact HC3.out); rintro e w21 ⟨v262, rfl, ho0, hb⟩; refine ⟨_, rfl, ?_⟩; have n0_ := Aside0.mk (Kd.R_below (by (with_reducible repeat first | apply Kd.R_alloc | apply Kd.R_drewN | apply Kd.R_drew); exact (Kd.R_mono (Kd.R_far (p := ⟨gb260, 3, none⟩) (Kd.R_far (p := ⟨gb260, 2, none⟩) (Kd.R_far (p := ⟨gb260, 1, none⟩) (Kd.R_far (p := ⟨gb260, 0, none⟩) (Kd.R_types HO259.out BK260.out (by decide)) (fun _ hk => hk.2) (.int .i64 t254)) (fun _ hk => hk.2) (.int .i64 t255)) (fun _ hk => hk.2) (.int .i64 t256)) (fun _ hk => hk.2) (.slice Ao20 t257.length co20)) (fun _ h_ => h_.1))) hb); have n1_ := Aside0.mk (Kd.R_lower ho0 (below_size (by repeat (first | (with_reducible first | exact HB.out | apply below_alloc | apply pw_below_drewN | apply below_drew1 | refine below_set ?_ GE260.out) | exact HB.out)))); have n2_ := Aside0.mk (blk_below (g := gb260) (o := .cells #[.int .i64 t254, .int .i64 t255, .int .i64 t256, .slice Ao20 t257.length co20] 26 (0, 0)) (by (with_reducible repeat first | refine blk_drewN ?_ _ | refine blk_drew ?_ | refine blk_alloc ?_ _); refine blk_put (cs := #[.int .i64 t254, .int .i64 t255, .int .i64 t256, .slice none 0 0]) ?_ 3 _ rfl; (with_reducible repeat first | refine blk_drewN ?_ _ | refine blk_drew ?_ | refine blk_alloc ?_ _); refine blk_put (cs := #[.int .i64 t254, .int .i64 t255, .int .i64 0, .slice none 0 0]) ?_ 2 _ rfl; (with_reducible repeat first | refine blk_drewN ?_ _ | refine blk_drew ?_ | refine blk_alloc ?_ _); refine blk_put (cs := #[.int .i64 t254, .int .i64 0, .int .i64 0, .slice none 0 0]) ?_ 1 _ rfl; (with_reducible repeat first | refine blk_drewN ?_ _ | refine blk_drew ?_ | refine blk_alloc ?_ _); refine blk_put (cs := #[.int .i64 0, .int .i64 0, .int .i64 0, .slice none 0 0]) ?_ 0 _ rfl; (with_reducible repeat first | refine blk_drewN ?_ _ | refine blk_drew ?_ | refine blk_alloc ?_ _); exact BK260.out) hb); have n3_ := Aside0.mk (below_step (by repeat (first | (with_reducible first | exact HB.out | apply below_alloc | apply pw_below_drewN | apply below_drew1 | refine below_set ?_ GE260.out) | exact HB.out)) hb); clear HO259; clear BK260; clear HB; have HO259 := n0_; have HO263 := n1_; have BK260 := n2_; have HB := n3_; clear n0_ n1_ n2_ n3_; (try clear hb); (try clear hk); (try clear ho0)) | ((with_reducible refine gate_callee (f := 27) rfl ?_); refine goesL_ (some 52) rfl rfl Try.func27 (by kernel_rfl) rfl #[.int .i64 a4, .int .i64 10] rfl (by (try simp only [List.map_toArray, List.map_cons, List.map_nil]); first | done | rfl | (simp only [List.length_drop, List.length_take]; rfl)) ?_; (with_reducible refine (racewaylaw8_pick.calls a4 10 t264 _ A10.out).mono ?_); rintro e w' ⟨rfl, ⟨nd, rfl⟩⟩; refine ⟨_, rfl, ?_⟩; have hcz22_0 : w21.cell? ⟨gb260, 0, none⟩ = some (.int .i64 t254) := (blk_cell BK260.out 0).trans rfl; have hcz22_1 : w21.cell? ⟨gb260, 1, none⟩ = some (.int .i64 t255) := (blk_cell BK260.out 1).trans rfl; have hcz22_2 : w21.cell? ⟨gb260, 2, none⟩ = some (.int .i64 t256) := (blk_cell BK260.out 2).trans rfl; have hcz22_3 : w21.cell? ⟨gb260, 3, none⟩ = some (.slice Ao20 t257.length co20) := (blk_cell BK260.out 3).trans rfl; have hfz22_0 := blk_frozen BK260.out 0; have hfz22_1 := blk_frozen BK260.out 1; have hfz22_2 := blk_frozen BK260.out 2; have hfz22_3 := blk_frozen BK260.out 3; obtain ⟨Ao23, co23, eo23⟩ := Kd.R_slice HO263.out; subst eo23) | ((with_reducible refine gate_callee (f := 28) rfl ?_); refine goesL_ (some 58) rfl rfl Try.func28 (by kernel_rfl) rfl #[.agg #[.int .i64 t254, .int .i64 t255, .int .i64 t256, .slice Ao20 t257.length co20], .slice Ao23 t261.length co23, .int .i64 (wrap64 (1 + t264))] rfl (by (try simp only [List.map_toArray, List.map_cons, List.map_nil]); first | done | rfl | (simp only [List.length_drop, List.length_take]; rfl)) ?_; (with_reducible refine (plain_Block.calls k t254 t255 t256 _ _ t257 _ _ t261 (wrap64 (1 + t264)) t265 t268 t271 _ ?side1 ?side2 ?side3 ?side4 A11.out).mono ?_); (case side1 => repeat (first | exact (Kd.R_reads' HO259.out).2.2 | (with_reducible refine Kd.C_alloc ?_ _) | (with_reducible refine Kd.C_drewN ?_ _) | (with_reducible refine Kd.C_drew ?_))); (case side2 => exact (Kd.R_reads' HO259.out).2.1); (case side3 => repeat (first | exact (Kd.R_reads' HO263.out).2.2 | (with_reducible refine Kd.C_alloc ?_ _) | (with_reducible refine Kd.C_drewN ?_ _) | (with_reducible refine Kd.C_drew ?_))); (case side4 => exact (Kd.R_reads' HO263.out).2.1); rintro e w24 ⟨v266, v269, rfl, ho0, ho1, hb⟩; refine ⟨_, rfl, ?_⟩; have n0_ := Aside0.mk (Kd.R_below (by (with_reducible repeat first | apply Kd.R_alloc | apply Kd.R_drewN | apply Kd.R_drew); exact HO259.out) hb); have n1_ := Aside0.mk (Kd.R_elder' (by (with_reducible repeat first | apply Kd.R_alloc | apply Kd.R_drewN | apply Kd.R_drew); exact HO263.out) (Kd.R_base ho0) hb); have n2_ := Aside0.mk (Kd.R_lower (Kd.R_new' (Kd.R_mono (ok' := fun k_ => True) ho0 (fun _ hk_ => trivial)) (Kd.R_lt (by (with_reducible repeat first | apply Kd.R_alloc | apply Kd.R_drewN | apply Kd.R_drew); exact HO263.out))) (below_size (by repeat (first | (with_reducible first | exact HB.out | apply below_alloc | apply pw_below_drewN | apply below_drew1 | refine below_set ?_ GE260.out) | exact HB.out)))); have n3_ := Aside0.mk (Kd.V_lower (Kd.V_mono (ok' := fun k_ => some k_ ≠ (v266 : Value).ownBlock ∧ some k_ ≠ (.slice Ao20 t257.length co20 : Value).ownBlock ∧ some k_ ≠ (.slice Ao23 t261.length co23 : Value).ownBlock ∧ k_ ≠ gb260) ho1 (fun k_ hk_ => ⟨hk_.2, (Kd.fresh' (Kd.R_lt (by (with_reducible repeat first | apply Kd.R_alloc | apply Kd.R_drewN | apply Kd.R_drew); exact HO259.out)) k_ hk_.1), (Kd.fresh' (Kd.R_lt (by (with_reducible repeat first | apply Kd.R_alloc | apply Kd.R_drewN | apply Kd.R_drew); exact HO263.out)) k_ hk_.1), (Kd.freshB (g := gb260) (o := .cells #[.int .i64 t254, .int .i64 t255, .int .i64 t256, .slice Ao20 t257.length co20] 26 (0, 0)) (by (with_reducible repeat first | refine blk_drewN ?_ _ | refine blk_drew ?_ | refine blk_alloc ?_ _); exact BK260.out) k_ hk_.1)⟩)) (below_size (by repeat (first | (with_reducible first | exact HB.out | apply below_alloc | apply pw_below_drewN | apply below_drew1 | refine below_set ?_ GE260.out) | exact HB.out)))); have n4_ := Aside0.mk (blk_below (g := gb260) (o := .cells #[.int .i64 t254, .int .i64 t255, .int .i64 t256, .slice Ao20 t257.length co20] 26 (0, 0)) (by (with_reducible repeat first | refine blk_drewN ?_ _ | refine blk_drew ?_ | refine blk_alloc ?_ _); exact BK260.out) hb); have n5_ := Aside0.mk (below_step (by repeat (first | (with_reducible first | exact HB.out | apply below_alloc | apply pw_below_drewN | apply below_drew1 | refine below_set ?_ GE260.out) | exact HB.out)) hb); clear HO259; clear HO263; clear BK260; clear HB; have HO259 := n0_; have HO263 := n1_; have HO267 := n2_; have HO270 := n3_; have BK260 := n4_; have HB := n5_; clear n0_ n1_ n2_ n3_ n4_ n5_; (try clear hb); (try clear hk); (try clear ho0); (try clear ho1); have hcz25_0 : w24.cell? ⟨gb260, 0, none⟩ = some (.int .i64 t254) := (blk_cell BK260.out 0).trans rfl; have hcz25_1 : w24.cell? ⟨gb260, 1, none⟩ = some (.int .i64 t255) := (blk_cell BK260.out 1).trans rfl; have hcz25_2 : w24.cell? ⟨gb260, 2, none⟩ = some (.int .i64 t256) := (blk_cell BK260.out 2).trans rfl; have hcz25_3 : w24.cell? ⟨gb260, 3, none⟩ = some (.slice Ao20 t257.length co20) := (blk_cell BK260.out 3).trans rfl; have hfz25_0 := blk_frozen BK260.out 0; have hfz25_1 := blk_frozen BK260.out 1; have hfz25_2 := blk_frozen BK260.out 2; have hfz25_3 := blk_frozen BK260.out 3) | ((with_reducible refine gate_callee (f := 31) rfl ?_); refine goesL_ (some 66) rfl rfl Try.func31 (by kernel_rfl) rfl #[.agg #[.int .i64 t254, .int .i64 t255, .int .i64 t256, .slice Ao20 t257.length co20], .slice Ao23 t261.length co23, .int .i64 (wrap64 (1 + t264))] rfl (by (try simp only [List.map_toArray, List.map_cons, List.map_nil]); first | done | rfl | (simp only [List.length_drop, List.length_take]; rfl)) ?_; (with_reducible refine (level_Deep.calls k t254 t255 t256 _ _ t257 _ _ t261 (wrap64 (1 + t264)) t272 t273 _ ?side1 ?side2 ?side3 ?side4 A12.out).mono ?_); (case side1 => repeat (first | exact (Kd.R_reads' HO259.out).2.2 | (with_reducible refine Kd.C_alloc ?_ _) | (with_reducible refine Kd.C_drewN ?_ _) | (with_reducible refine Kd.C_drew ?_))); (case side2 => exact (Kd.R_reads' HO259.out).2.1); (case side3 => repeat (first | exact (Kd.R_reads' HO263.out).2.2 | (with_reducible refine Kd.C_alloc ?_ _) | (with_reducible refine Kd.C_drewN ?_ _) | (with_reducible refine Kd.C_drew ?_))); (case side4 => exact (Kd.R_reads' HO263.out).2.1); rintro e w26 ⟨rfl, hb⟩; refine ⟨_, rfl, ?_⟩; have n0_ := Aside0.mk (Kd.R_below (by (with_reducible repeat first | apply Kd.R_alloc | apply Kd.R_drewN | apply Kd.R_drew); exact HO259.out) hb); have n1_ := Aside0.mk (Kd.R_below (by (with_reducible repeat first | apply Kd.R_alloc | apply Kd.R_drewN | apply Kd.R_drew); exact HO263.out) hb); have n2_ := Aside0.mk (Kd.R_below (by (with_reducible repeat first | apply Kd.R_alloc | apply Kd.R_drewN | apply Kd.R_drew); exact HO267.out) hb); have n3_ := Aside0.mk (Kd.V_below (by (with_reducible repeat (first | apply Kd.V_alloc | apply Kd.V_drewN | apply Kd.V_drew)); exact HO270.out) hb); have n4_ := Aside0.mk (blk_below (g := gb260) (o := .cells #[.int .i64 t254, .int .i64 t255, .int .i64 t256, .slice Ao20 t257.length co20] 26 (0, 0)) (by (with_reducible repeat first | refine blk_drewN ?_ _ | refine blk_drew ?_ | refine blk_alloc ?_ _); exact BK260.out) hb); have n5_ := Aside0.mk (below_step (by repeat (first | (with_reducible first | exact HB.out | apply below_alloc | apply pw_below_drewN | apply below_drew1 | refine below_set ?_ GE260.out) | exact HB.out)) hb); clear HO259; clear HO263; clear HO267; clear HO270; clear BK260; clear HB; have HO259 := n0_; have HO263 := n1_; have HO267 := n2_; have HO270 := n3_; have BK260 := n4_; have HB := n5_; clear n0_ n1_ n2_ n3_ n4_ n5_; (try clear hb); (try clear hk); have hcz27_0 : w26.cell? ⟨gb260, 0, none⟩ = some (.int .i64 t254) := (blk_cell BK260.out 0).trans rfl; have hcz27_1 : w26.cell? ⟨gb260, 1, none⟩ = some (.int .i64 t255) := (blk_cell BK260.out 1).trans rfl; have hcz27_2 : w26.cell? ⟨gb260, 2, none⟩ = some (.int .i64 t256) := (blk_cell BK260.out 2).trans rfl; have hcz27_3 : w26.cell? ⟨gb260, 3, none⟩ = some (.slice Ao20 t257.length co20) := (blk_cell BK260.out 3).trans rfl; have hfz27_0 := blk_frozen BK260.out 0; have hfz27_1 := blk_frozen BK260.out 1; have hfz27_2 := blk_frozen BK260.out 2; have hfz27_3 := blk_frozen BK260.out 3; obtain ⟨Ao28, co28, eo28⟩ := Kd.R_slice HO267.out; subst eo28) | ((with_reducible refine gate_callee (f := 31) rfl ?_); refine goesL_ (some 73) rfl rfl Try.func31 (by kernel_rfl) rfl #[.agg #[.int .i64 t254, .int .i64 t255, .int .i64 t256, .slice Ao20 t257.length co20], .slice Ao28 t265.length co28, .int .i64 (wrap64 (1 + t264))] rfl (by (try simp only [List.map_toArray, List.map_cons, List.map_nil]); first | done | rfl | (simp only [List.length_drop, List.length_take]; rfl)) ?_; (with_reducible refine (level_Deep.calls k t254 t255 t256 _ _ t257 _ _ t265 (wrap64 (1 + t264)) t274 t275 _ ?side1 ?side2 ?side3 ?side4 A13.out).mono ?_); (case side1 => repeat (first | exact (Kd.R_reads' HO259.out).2.2 | (with_reducible refine Kd.C_alloc ?_ _) | (with_reducible refine Kd.C_drewN ?_ _) | (with_reducible refine Kd.C_drew ?_))); (case side2 => exact (Kd.R_reads' HO259.out).2.1); (case side3 => repeat (first | exact (Kd.R_reads' HO267.out).2.2 | (with_reducible refine Kd.C_alloc ?_ _) | (with_reducible refine Kd.C_drewN ?_ _) | (with_reducible refine Kd.C_drew ?_))); (case side4 => exact (Kd.R_reads' HO267.out).2.1); rintro e w29 ⟨rfl, hb⟩; refine ⟨_, rfl, ?_⟩; have n0_ := Aside0.mk (Kd.R_below (by (with_reducible repeat first | apply Kd.R_alloc | apply Kd.R_drewN | apply Kd.R_drew); exact HO259.out) hb); have n1_ := Aside0.mk (Kd.R_below (by (with_reducible repeat first | apply Kd.R_alloc | apply Kd.R_drewN | apply Kd.R_drew); exact HO263.out) hb); have n2_ := Aside0.mk (Kd.R_below (by (with_reducible repeat first | apply Kd.R_alloc | apply Kd.R_drewN | apply Kd.R_drew); exact HO267.out) hb); have n3_ := Aside0.mk (Kd.V_below (by (with_reducible repeat (first | apply Kd.V_alloc | apply Kd.V_drewN | apply Kd.V_drew)); exact HO270.out) hb); have n4_ := Aside0.mk (blk_below (g := gb260) (o := .cells #[.int .i64 t254, .int .i64 t255, .int .i64 t256, .slice Ao20 t257.length co20] 26 (0, 0)) (by (with_reducible repeat first | refine blk_drewN ?_ _ | refine blk_drew ?_ | refine blk_alloc ?_ _); exact BK260.out) hb); have n5_ := Aside0.mk (below_step (by repeat (first | (with_reducible first | exact HB.out | apply below_alloc | apply pw_below_drewN | apply below_drew1 | refine below_set ?_ GE260.out) | exact HB.out)) hb); clear HO259; clear HO263; clear HO267; clear HO270; clear BK260; clear HB; have HO259 := n0_; have HO263 := n1_; have HO267 := n2_; have HO270 := n3_; have BK260 := n4_; have HB := n5_; clear n0_ n1_ n2_ n3_ n4_ n5_; (try clear hb); (try clear hk); have hcz30_0 : w29.cell? ⟨gb260, 0, none⟩ = some (.int .i64 t254) := (blk_cell BK260.out 0).trans rfl; have hcz30_1 : w29.cell? ⟨gb260, 1, none⟩ = some (.int .i64 t255) := (blk_cell BK260.out 1).trans rfl; have hcz30_2 : w29.cell? ⟨gb260, 2, none⟩ = some (.int .i64 t256) := (blk_cell BK260.out 2).trans rfl; have hcz30_3 : w29.cell? ⟨gb260, 3, none⟩ = some (.slice Ao20 t257.length co20) := (blk_cell BK260.out 3).trans rfl; have hfz30_0 := blk_frozen BK260.out 0; have hfz30_1 := blk_frozen BK260.out 1; have hfz30_2 := blk_frozen BK260.out 2; have hfz30_3 := blk_frozen BK260.out 3) | ((with_reducible refine gate_callee (f := 33) rfl ?_); refine goesL_ (some 80) rfl rfl Try.func33 (by kernel_rfl) rfl #[.agg #[.int .i64 t254, .int .i64 t255, .int .i64 t256, .slice Ao20 t257.length co20], .slice Ao23 t261.length co23, .int .i64 (wrap64 (1 + t264))] rfl (by (try simp only [List.map_toArray, List.map_cons, List.map_nil]); first | done | rfl | (simp only [List.length_drop, List.length_take]; rfl)) ?_; (with_reducible refine (level_Leads.calls k t254 t255 t256 _ _ t257 _ _ t261 (wrap64 (1 + t264)) t276 t279 _ ?side1 ?side2 ?side3 ?side4 A14.out).mono ?_); (case side1 => repeat (first | exact (Kd.R_reads' HO259.out).2.2 | (with_reducible refine Kd.C_alloc ?_ _) | (with_reducible refine Kd.C_drewN ?_ _) | (with_reducible refine Kd.C_drew ?_))); (case side2 => exact (Kd.R_reads' HO259.out).2.1); (case side3 => repeat (first | exact (Kd.R_reads' HO263.out).2.2 | (with_reducible refine Kd.C_alloc ?_ _) | (with_reducible refine Kd.C_drewN ?_ _) | (with_reducible refine Kd.C_drew ?_))); (case side4 => exact (Kd.R_reads' HO263.out).2.1); rintro e w31 ⟨v277, rfl, ho0, hb⟩; refine ⟨_, rfl, ?_⟩; have n0_ := Aside0.mk (Kd.R_below (by (with_reducible repeat first | apply Kd.R_alloc | apply Kd.R_drewN | apply Kd.R_drew); exact HO259.out) hb); have n1_ := Aside0.mk (Kd.R_below (by (with_reducible repeat first | apply Kd.R_alloc | apply Kd.R_drewN | apply Kd.R_drew); exact HO263.out) hb); have n2_ := Aside0.mk (Kd.R_below (by (with_reducible repeat first | apply Kd.R_alloc | apply Kd.R_drewN | apply Kd.R_drew); exact HO267.out) hb); have n3_ := Aside0.mk (Kd.V_elder' (by (with_reducible repeat (first | apply Kd.V_alloc | apply Kd.V_drewN | apply Kd.V_drew)); exact HO270.out) (Kd.R_base ho0) hb); have n4_ := Aside0.mk (Kd.R_lower ho0 (below_size (by repeat (first | (with_reducible first | exact HB.out | apply below_alloc | apply pw_below_drewN | apply below_drew1 | refine below_set ?_ GE260.out) | exact HB.out)))); have n5_ := Aside0.mk (blk_below (g := gb260) (o := .cells #[.int .i64 t254, .int .i64 t255, .int .i64 t256, .slice Ao20 t257.length co20] 26 (0, 0)) (by (with_reducible repeat first | refine blk_drewN ?_ _ | refine blk_drew ?_ | refine blk_alloc ?_ _); exact BK260.out) hb); have n6_ := Aside0.mk (below_step (by repeat (first | (with_reducible first | exact HB.out | apply below_alloc | apply pw_below_drewN | apply below_drew1 | refine below_set ?_ GE260.out) | exact HB.out)) hb); clear HO259; clear HO263; clear HO267; clear HO270; clear BK260; clear HB; have HO259 := n0_; have HO263 := n1_; have HO267 := n2_; have HO270 := n3_; have HO278 := n4_; have BK260 := n5_; have HB := n6_; clear n0_ n1_ n2_ n3_ n4_ n5_ n6_; (try clear hb); (try clear hk); (try clear ho0))))
  (try simp only [Act.put, sA_, sZ_, sS_]); (go_cut [102] (fun v102 wc => ∃ (kq : Nat) (x102_14 : Bool), v102 = .bool x102_14 ∧ Aside0 (racewaylaw8_PlainBlocks.j0 kq t261 (wrap64 (1 + t264)) t265 t268 t272 t274 t276 x102_14 t254 t255 t256 t257 = some r) ∧ Aside0 (kq ≤ k) ∧ Aside0 (Kd.R (Kd.int .i64) 2 wc w.heap.size (fun k_ => some k_ ≠ ((.slice Ao28 t265.length co28) : Value).ownBlock) (.slice Ao23 t261.length co23) t261) ∧ Aside0 (Kd.R (Kd.int .i64) 2 wc w.heap.size (fun k_ => some k_ ≠ ((.slice Ao23 t261.length co23) : Value).ownBlock) (.slice Ao28 t265.length co28) t265) ∧ Aside0 (Kd.V k61 61 wc w.heap.size (fun k_ => some k_ ≠ ((.slice Ao23 t261.length co23) : Value).ownBlock ∧ some k_ ≠ ((.slice Ao28 t265.length co28) : Value).ownBlock ∧ some k_ ≠ (v277 : Value).ownBlock ∧ some k_ ≠ ((.slice Ao20 t257.length co20) : Value).ownBlock ∧ k_ ≠ gb260) v269 t268) ∧ Aside0 (Kd.R (Kd.int .i64) 3 wc w.heap.size (fun _ => True) v277 t276) ∧ Aside0 (Kd.R k30 30 wc w.heap.size (fun _ => True) (.slice Ao20 t257.length co20) t257) ∧ Aside0 (wc.heap[gb260]? = some (.cells #[.int .i64 t254, .int .i64 t255, .int .i64 t256, (.slice Ao20 t257.length co20)] 26 (0, 0))) ∧ Aside0 (Below w.heap.size w wc)))
  case first =>
   ((have H := HC15.out);(clear HC15)); (by_cases c32 : t271 = 0)
   ·(rw [if_pos c32] at H);(have c32b0 : (t271 == 0) = true := beq_iff_eq.mpr c32);(have c32b1 : (t271 != 0) = false := bne_eq_false_iff_eq.mpr c32);(clear c32);((first | rw [c32b0] | (simp only [i64_w, i32_w]; rw [c32b0]) | skip))
    by_cases c33 : t273 = 0
    ·(rw [if_pos c33] at H);(have c33b0 : (t273 == 0) = true := beq_iff_eq.mpr c33);(have c33b1 : (t273 != 0) = false := bne_eq_false_iff_eq.mpr c33);(clear c33)
     by_cases c34 : t275 = 0
     ·(rw [if_pos c34] at H);(have c34b0 : (t275 == 0) = true := beq_iff_eq.mpr c34);(have c34b1 : (t275 != 0) = false := bne_eq_false_iff_eq.mpr c34);(clear c34)
      by_cases c35 : t279 = 0
      ·(rw [if_pos c35] at H);(have c35b0 : (t279 == 0) = true := beq_iff_eq.mpr c35);(have c35b1 : (t279 != 0) = false := bne_eq_false_iff_eq.mpr c35);(clear c35);(replace H := Option.bind_eq_some_iff.mp H);(obtain ⟨t280, A360, H⟩ := H);(replace H : (racewaylaw8_PlainBlocks.j0 k t261 (wrap64 (1 + t264)) t265 t268 t272 t274 t276 (t280 != 0) t254 t255 t256 t257) = some r := H);(have A36 := Aside0.mk A360);(clear A360)
       as_aux_lemma =>
        ((have H' := Aside0.mk H);(clear H);(have hcz37_0 : w31.cell? ⟨gb260, 0, none⟩ = some (.int .i64 t254) := (blk_cell BK260.out 0).trans rfl);(have hcz37_1 : w31.cell? ⟨gb260, 1, none⟩ = some (.int .i64 t255) := (blk_cell BK260.out 1).trans rfl);(have hcz37_2 : w31.cell? ⟨gb260, 2, none⟩ = some (.int .i64 t256) := (blk_cell BK260.out 2).trans rfl);(have hcz37_3 : w31.cell? ⟨gb260, 3, none⟩ = some (.slice Ao20 t257.length co20) := (blk_cell BK260.out 3).trans rfl);(have hfz37_0 := blk_frozen BK260.out 0);(have hfz37_1 := blk_frozen BK260.out 1);(have hfz37_2 := blk_frozen BK260.out 2);(have hfz37_3 := blk_frozen BK260.out 3)); (go_wp2_with (first | (go_at_call 34; (with_reducible refine (flow_Check.calls k t254 t255 t256 _ _ t257 _ _ t265 t280 _ ?side1 ?side2 ?side3 ?side4 A36.out).mono ?_); (case side1 => repeat (first | exact (Kd.R_reads' HO259.out).2.2 | (with_reducible refine Kd.C_alloc ?_ _) | (with_reducible refine Kd.C_drewN ?_ _) | (with_reducible refine Kd.C_drew ?_))); (case side2 => exact (Kd.R_reads' HO259.out).2.1); (case side3 => repeat (first | exact (Kd.R_reads' HO267.out).2.2 | (with_reducible refine Kd.C_alloc ?_ _) | (with_reducible refine Kd.C_drewN ?_ _) | (with_reducible refine Kd.C_drew ?_))); (case side4 => exact (Kd.R_reads' HO267.out).2.1); rintro e w38 ⟨rfl, hb⟩; have n0_ := Aside0.mk (Kd.R_below (by (with_reducible repeat first | apply Kd.R_alloc | apply Kd.R_drewN | apply Kd.R_drew); exact HO259.out) hb); have n1_ := Aside0.mk (Kd.R_below (by (with_reducible repeat first | apply Kd.R_alloc | apply Kd.R_drewN | apply Kd.R_drew); exact HO263.out) hb); have n2_ := Aside0.mk (Kd.R_below (by (with_reducible repeat first | apply Kd.R_alloc | apply Kd.R_drewN | apply Kd.R_drew); exact HO267.out) hb); have n3_ := Aside0.mk (Kd.V_below (by (with_reducible repeat (first | apply Kd.V_alloc | apply Kd.V_drewN | apply Kd.V_drew)); exact HO270.out) hb); have n4_ := Aside0.mk (Kd.R_below (by (with_reducible repeat first | apply Kd.R_alloc | apply Kd.R_drewN | apply Kd.R_drew); exact HO278.out) hb); have n5_ := Aside0.mk (blk_below (g := gb260) (o := .cells #[.int .i64 t254, .int .i64 t255, .int .i64 t256, .slice Ao20 t257.length co20] 26 (0, 0)) (by (with_reducible repeat first | refine blk_drewN ?_ _ | refine blk_drew ?_ | refine blk_alloc ?_ _); exact BK260.out) hb); have n6_ := Aside0.mk (below_step (by repeat (first | (with_reducible first | exact HB.out | apply below_alloc | apply pw_below_drewN | apply below_drew1 | refine below_set ?_ GE260.out) | exact HB.out)) hb); clear HO259; clear HO263; clear HO267; clear HO270; clear HO278; clear BK260; clear HB; have HO259 := n0_; have HO263 := n1_; have HO267 := n2_; have HO270 := n3_; have HO278 := n4_; have BK260 := n5_; have HB := n6_; clear n0_ n1_ n2_ n3_ n4_ n5_ n6_; (try clear hb); (try clear hk)))); (go_meet)
        case rel => exact ⟨_, ((t280 != 0)), (by first | rfl | (simp; done) | (simp [*]; done)), H', ⟨by first | omega | exact Nat.le_refl _⟩, ⟨by (with_reducible repeat first | apply Kd.R_alloc | apply Kd.R_drewN | apply Kd.R_drew); exact Kd.R_mono HO263.out (fun _ hk => hk.2)⟩, ⟨by (with_reducible repeat first | apply Kd.R_alloc | apply Kd.R_drewN | apply Kd.R_drew); exact Kd.R_mono HO267.out (fun _ hk => hk.2)⟩, ⟨by (with_reducible repeat (first | apply Kd.V_alloc | apply Kd.V_drewN | apply Kd.V_drew)); exact Kd.V_mono HO270.out (fun _ hk => ⟨hk.1.2.2.1, ⟨hk.1.1, ⟨hk.2, ⟨hk.1.2.1, hk.1.2.2.2⟩⟩⟩⟩)⟩, ⟨by (with_reducible repeat first | apply Kd.R_alloc | apply Kd.R_drewN | apply Kd.R_drew); exact HO278.out⟩, ⟨by (with_reducible repeat first | apply Kd.R_alloc | apply Kd.R_drewN | apply Kd.R_drew); exact HO259.out⟩, ⟨by (with_reducible repeat first | refine blk_drewN ?_ _ | refine blk_drew ?_ | refine blk_alloc ?_ _); exact BK260.out⟩, ⟨by repeat (first | (with_reducible first | exact HB.out | apply below_alloc | apply pw_below_drewN | apply below_drew1 | refine below_set ?_ GE260.out) | exact HB.out)⟩⟩
      ·(rw [if_neg c35] at H);(have c35b0 : (t279 == 0) = false := beq_eq_false_iff_ne.mpr c35);(have c35b1 : (t279 != 0) = true := bne_iff_ne.mpr c35)
       as_aux_lemma =>
        ((have H' := Aside0.mk H);(clear H)); (go_wp2); (go_meet)
        case rel => exact ⟨_, (true), (by first | rfl | (simp; done) | (simp [*]; done)), H', ⟨by first | omega | exact Nat.le_refl _⟩, ⟨by (with_reducible repeat first | apply Kd.R_alloc | apply Kd.R_drewN | apply Kd.R_drew); exact Kd.R_mono HO263.out (fun _ hk => hk.2)⟩, ⟨by (with_reducible repeat first | apply Kd.R_alloc | apply Kd.R_drewN | apply Kd.R_drew); exact Kd.R_mono HO267.out (fun _ hk => hk.2)⟩, ⟨by (with_reducible repeat (first | apply Kd.V_alloc | apply Kd.V_drewN | apply Kd.V_drew)); exact Kd.V_mono HO270.out (fun _ hk => ⟨hk.1.2.2.1, ⟨hk.1.1, ⟨hk.2, ⟨hk.1.2.1, hk.1.2.2.2⟩⟩⟩⟩)⟩, ⟨by (with_reducible repeat first | apply Kd.R_alloc | apply Kd.R_drewN | apply Kd.R_drew); exact HO278.out⟩, ⟨by (with_reducible repeat first | apply Kd.R_alloc | apply Kd.R_drewN | apply Kd.R_drew); exact HO259.out⟩, ⟨by (with_reducible repeat first | refine blk_drewN ?_ _ | refine blk_drew ?_ | refine blk_alloc ?_ _); exact BK260.out⟩, ⟨by repeat (first | (with_reducible first | exact HB.out | apply below_alloc | apply pw_below_drewN | apply below_drew1 | refine below_set ?_ GE260.out) | exact HB.out)⟩⟩
     ·(rw [if_neg c34] at H);(have c34b0 : (t275 == 0) = false := beq_eq_false_iff_ne.mpr c34);(have c34b1 : (t275 != 0) = true := bne_iff_ne.mpr c34)
      as_aux_lemma =>
       ((have H' := Aside0.mk H);(clear H)); (go_wp2); (go_meet)
       case rel => exact ⟨_, (true), (by first | rfl | (simp; done) | (simp [*]; done)), H', ⟨by first | omega | exact Nat.le_refl _⟩, ⟨by (with_reducible repeat first | apply Kd.R_alloc | apply Kd.R_drewN | apply Kd.R_drew); exact Kd.R_mono HO263.out (fun _ hk => hk.2)⟩, ⟨by (with_reducible repeat first | apply Kd.R_alloc | apply Kd.R_drewN | apply Kd.R_drew); exact Kd.R_mono HO267.out (fun _ hk => hk.2)⟩, ⟨by (with_reducible repeat (first | apply Kd.V_alloc | apply Kd.V_drewN | apply Kd.V_drew)); exact Kd.V_mono HO270.out (fun _ hk => ⟨hk.1.2.2.1, ⟨hk.1.1, ⟨hk.2, ⟨hk.1.2.1, hk.1.2.2.2⟩⟩⟩⟩)⟩, ⟨by (with_reducible repeat first | apply Kd.R_alloc | apply Kd.R_drewN | apply Kd.R_drew); exact HO278.out⟩, ⟨by (with_reducible repeat first | apply Kd.R_alloc | apply Kd.R_drewN | apply Kd.R_drew); exact HO259.out⟩, ⟨by (with_reducible repeat first | refine blk_drewN ?_ _ | refine blk_drew ?_ | refine blk_alloc ?_ _); exact BK260.out⟩, ⟨by repeat (first | (with_reducible first | exact HB.out | apply below_alloc | apply pw_below_drewN | apply below_drew1 | refine below_set ?_ GE260.out) | exact HB.out)⟩⟩
    ·(rw [if_neg c33] at H);(have c33b0 : (t273 == 0) = false := beq_eq_false_iff_ne.mpr c33);(have c33b1 : (t273 != 0) = true := bne_iff_ne.mpr c33)
     as_aux_lemma =>
      ((have H' := Aside0.mk H);(clear H)); (go_wp2); (go_meet)
      case rel => exact ⟨_, (true), (by first | rfl | (simp; done) | (simp [*]; done)), H', ⟨by first | omega | exact Nat.le_refl _⟩, ⟨by (with_reducible repeat first | apply Kd.R_alloc | apply Kd.R_drewN | apply Kd.R_drew); exact Kd.R_mono HO263.out (fun _ hk => hk.2)⟩, ⟨by (with_reducible repeat first | apply Kd.R_alloc | apply Kd.R_drewN | apply Kd.R_drew); exact Kd.R_mono HO267.out (fun _ hk => hk.2)⟩, ⟨by (with_reducible repeat (first | apply Kd.V_alloc | apply Kd.V_drewN | apply Kd.V_drew)); exact Kd.V_mono HO270.out (fun _ hk => ⟨hk.1.2.2.1, ⟨hk.1.1, ⟨hk.2, ⟨hk.1.2.1, hk.1.2.2.2⟩⟩⟩⟩)⟩, ⟨by (with_reducible repeat first | apply Kd.R_alloc | apply Kd.R_drewN | apply Kd.R_drew); exact HO278.out⟩, ⟨by (with_reducible repeat first | apply Kd.R_alloc | apply Kd.R_drewN | apply Kd.R_drew); exact HO259.out⟩, ⟨by (with_reducible repeat first | refine blk_drewN ?_ _ | refine blk_drew ?_ | refine blk_alloc ?_ _); exact BK260.out⟩, ⟨by repeat (first | (with_reducible first | exact HB.out | apply below_alloc | apply pw_below_drewN | apply below_drew1 | refine below_set ?_ GE260.out) | exact HB.out)⟩⟩
   ·(rw [if_neg c32] at H);(have c32b0 : (t271 == 0) = false := beq_eq_false_iff_ne.mpr c32);(have c32b1 : (t271 != 0) = true := bne_iff_ne.mpr c32);((first | rw [c32b0] | (simp only [i64_w, i32_w]; rw [c32b0]) | skip))
    as_aux_lemma =>
     ((have H' := Aside0.mk H);(clear H)); (go_wp2); (go_meet)
     case rel => exact ⟨_, (true), (by first | rfl | (simp; done) | (simp [*]; done)), H', ⟨by first | omega | exact Nat.le_refl _⟩, ⟨by (with_reducible repeat first | apply Kd.R_alloc | apply Kd.R_drewN | apply Kd.R_drew); exact Kd.R_mono HO263.out (fun _ hk => hk.2)⟩, ⟨by (with_reducible repeat first | apply Kd.R_alloc | apply Kd.R_drewN | apply Kd.R_drew); exact Kd.R_mono HO267.out (fun _ hk => hk.2)⟩, ⟨by (with_reducible repeat (first | apply Kd.V_alloc | apply Kd.V_drewN | apply Kd.V_drew)); exact Kd.V_mono HO270.out (fun _ hk => ⟨hk.1.2.2.1, ⟨hk.1.1, ⟨hk.2, ⟨hk.1.2.1, hk.1.2.2.2⟩⟩⟩⟩)⟩, ⟨by (with_reducible repeat first | apply Kd.R_alloc | apply Kd.R_drewN | apply Kd.R_drew); exact HO278.out⟩, ⟨by (with_reducible repeat first | apply Kd.R_alloc | apply Kd.R_drewN | apply Kd.R_drew); exact HO259.out⟩, ⟨by (with_reducible repeat first | refine blk_drewN ?_ _ | refine blk_drew ?_ | refine blk_alloc ?_ _); exact BK260.out⟩, ⟨by repeat (first | (with_reducible first | exact HB.out | apply below_alloc | apply pw_below_drewN | apply below_drew1 | refine below_set ?_ GE260.out) | exact HB.out)⟩⟩
  case rest =>
   clear HC15
   try clear c1
   try clear c2
   try clear p2
   try clear c3
   try clear p6
   try clear c7
   try clear c12
   try clear c24
   try clear c25
   try clear c26
   try clear c27
   try clear c28
   try clear c31
   try clear c32
   try clear c32b0
   try clear c32b1
   try clear c33
   try clear c33b0
   try clear c33b1
   try clear c34
   try clear c34b0
   try clear c34b1
   try clear c35
   try clear c35b0
   try clear c35b1
   try clear hcz19_0
   try clear hcz19_1
   try clear hcz19_2
   try clear hcz19_3
   try clear hcz22_0
   try clear hcz22_1
   try clear hcz22_2
   try clear hcz22_3
   try clear hcz25_0
   try clear hcz25_1
   try clear hcz25_2
   try clear hcz25_3
   try clear hcz27_0
   try clear hcz27_1
   try clear hcz27_2
   try clear hcz27_3
   try clear hcz30_0
   try clear hcz30_1
   try clear hcz30_2
   try clear hcz30_3
   try clear hcz37_0
   try clear hcz37_1
   try clear hcz37_2
   try clear hcz37_3
   try clear hfz19_0
   try clear hfz19_1
   try clear hfz19_2
   try clear hfz19_3
   try clear hfz22_0
   try clear hfz22_1
   try clear hfz22_2
   try clear hfz22_3
   try clear hfz25_0
   try clear hfz25_1
   try clear hfz25_2
   try clear hfz25_3
   try clear hfz27_0
   try clear hfz27_1
   try clear hfz27_2
   try clear hfz27_3
   try clear hfz30_0
   try clear hfz30_1
   try clear hfz30_2
   try clear hfz30_3
   try clear hfz37_0
   try clear hfz37_1
   try clear hfz37_2
   try clear hfz37_3
   obtain ⟨kq, x102_14, rfl, HA, HJ14, HO_13, HO_15, HO_16, HO_22, HO_261003, BK260, HB⟩ := hcut
   cases kq with
   | zero => exact absurd HA.out (by simp [racewaylaw8_PlainBlocks.j0])
   | succ kj14 =>
    ((have H := HA.out);(clear HA);(simp only [racewaylaw8_PlainBlocks.j0] at H)); (by_cases c39 : x102_14 = true)
    ·(subst c39);(have H1 : (some false) = some r := by rw [if_pos rfl] at H; exact H);(clear H);(have H := H1);(clear H1);(exact absurd ((Option.some.inj H).trans hrT_.out) (by simp))
    ·(replace c39 := Bool.eq_false_iff.mpr c39);(subst c39);(have H1 : (if (t268.length : Int) > 0 then (if t272 ≥ 0 then (if t274 ≥ 0 then (if t274 ≤ t272 then (racewaylaw8_PlainBlocks.j1 kj14 t261 (wrap64 (1 + t264)) t265 t268 t272 t276 true t254 t255 t256 t257) else (racewaylaw8_PlainBlocks.j1 kj14 t261 (wrap64 (1 + t264)) t265 t268 t272 t276 (decide ((t268.length : Int) > (t276.length : Int))) t254 t255 t256 t257)) else (racewaylaw8_PlainBlocks.j1 kj14 t261 (wrap64 (1 + t264)) t265 t268 t272 t276 (decide ((t268.length : Int) > (t276.length : Int))) t254 t255 t256 t257)) else (racewaylaw8_PlainBlocks.j1 kj14 t261 (wrap64 (1 + t264)) t265 t268 t272 t276 true t254 t255 t256 t257)) else (if t272 ≥ 0 then (racewaylaw8_PlainBlocks.j1 kj14 t261 (wrap64 (1 + t264)) t265 t268 t272 t276 true t254 t255 t256 t257) else (if t274 ≥ 0 then (if t274 ≤ t272 then (racewaylaw8_PlainBlocks.j1 kj14 t261 (wrap64 (1 + t264)) t265 t268 t272 t276 true t254 t255 t256 t257) else (racewaylaw8_PlainBlocks.j1 kj14 t261 (wrap64 (1 + t264)) t265 t268 t272 t276 (decide ((t268.length : Int) > (t276.length : Int))) t254 t255 t256 t257)) else (racewaylaw8_PlainBlocks.j1 kj14 t261 (wrap64 (1 + t264)) t265 t268 t272 t276 (decide ((t268.length : Int) > (t276.length : Int))) t254 t255 t256 t257)))) = some r := by rw [if_neg (show ¬ (false = true) by decide)] at H; exact H);(clear H);(have H := H1);(clear H1);(have HC40 := Aside0.mk H);(clear H)
     (go_upto_region 13 with (fail)); (go_cut [124] (fun v124 wc => ∃ (kq : Nat) (x124_39 : Bool), v124 = .bool x124_39 ∧ Aside0 (racewaylaw8_PlainBlocks.j1 kq t261 (wrap64 (1 + t264)) t265 t268 t272 t276 x124_39 t254 t255 t256 t257 = some r) ∧ Aside0 (kq ≤ kj14) ∧ Aside0 (Kd.R (Kd.int .i64) 2 wc w.heap.size (fun k_ => some k_ ≠ ((.slice Ao28 t265.length co28) : Value).ownBlock) (.slice Ao23 t261.length co23) t261) ∧ Aside0 (Kd.R (Kd.int .i64) 2 wc w.heap.size (fun k_ => some k_ ≠ ((.slice Ao23 t261.length co23) : Value).ownBlock) (.slice Ao28 t265.length co28) t265) ∧ Aside0 (Kd.V k61 61 wc w.heap.size (fun k_ => some k_ ≠ ((.slice Ao23 t261.length co23) : Value).ownBlock ∧ some k_ ≠ ((.slice Ao28 t265.length co28) : Value).ownBlock ∧ some k_ ≠ (v277 : Value).ownBlock ∧ some k_ ≠ ((.slice Ao20 t257.length co20) : Value).ownBlock ∧ k_ ≠ gb260) v269 t268) ∧ Aside0 (Kd.R (Kd.int .i64) 3 wc w.heap.size (fun _ => True) v277 t276) ∧ Aside0 (Kd.R k30 30 wc w.heap.size (fun _ => True) (.slice Ao20 t257.length co20) t257) ∧ Aside0 (wc.heap[gb260]? = some (.cells #[.int .i64 t254, .int .i64 t255, .int .i64 t256, (.slice Ao20 t257.length co20)] 26 (0, 0))) ∧ Aside0 (Below w.heap.size w wc)))
     case first =>
      ((have H := HC40.out);(clear HC40)); (by_cases c41 : (t268.length : Int) > 0)
      ·(rw [if_pos c41] at H);(have c41b0 : decide (0 < (t268.length : Int)) = true := decide_eq_true c41);(have c41b1 : decide (0 < t268.length) = true := decide_eq_true (by omega));(clear c41);((first | rw [c41b0] | (simp only [i64_w, i32_w]; rw [c41b0]) | skip))
       by_cases c42 : t272 ≥ 0
       ·(rw [if_pos c42] at H);(have c42b0 : decide (0 ≤ t272) = true := decide_eq_true c42);(clear c42)
        by_cases c43 : t274 ≥ 0
        ·(rw [if_pos c43] at H);(have c43b0 : decide (0 ≤ t274) = true := decide_eq_true c43);(clear c43)
         by_cases c44 : t274 ≤ t272
         ·(rw [if_pos c44] at H);(have c44b0 : decide (t274 ≤ t272) = true := decide_eq_true c44);(clear c44)
          as_aux_lemma =>
           ((have H' := Aside0.mk H);(clear H);(obtain ⟨Ao45, co45, eo45⟩ := Kd.V_slice HO_16.out);(subst eo45)); (go_wp2); (go_meet)
           case rel => exact ⟨_, (true), (by first | rfl | (simp; done) | (simp [*]; done)), H', ⟨by have := HJ14.out; first | omega | exact Nat.le_refl _⟩, ⟨by (with_reducible repeat first | apply Kd.R_alloc | apply Kd.R_drewN | apply Kd.R_drew); exact HO_13.out⟩, ⟨by (with_reducible repeat first | apply Kd.R_alloc | apply Kd.R_drewN | apply Kd.R_drew); exact HO_15.out⟩, ⟨by (with_reducible repeat (first | apply Kd.V_alloc | apply Kd.V_drewN | apply Kd.V_drew)); exact HO_16.out⟩, ⟨by (with_reducible repeat first | apply Kd.R_alloc | apply Kd.R_drewN | apply Kd.R_drew); exact HO_22.out⟩, ⟨by (with_reducible repeat first | apply Kd.R_alloc | apply Kd.R_drewN | apply Kd.R_drew); exact HO_261003.out⟩, ⟨by (with_reducible repeat first | refine blk_drewN ?_ _ | refine blk_drew ?_ | refine blk_alloc ?_ _); exact BK260.out⟩, ⟨by repeat (first | (with_reducible first | exact HB.out | apply below_alloc | apply pw_below_drewN | apply below_drew1 | refine below_set ?_ GE260.out) | exact HB.out)⟩⟩
         ·(rw [if_neg c44] at H);(have c44b0 : decide (t274 ≤ t272) = false := decide_eq_false c44);(clear c44)
          as_aux_lemma =>
           ((have H' := Aside0.mk H);(clear H);(obtain ⟨Ao46, co46, eo46⟩ := Kd.V_slice HO_16.out);(subst eo46);(obtain ⟨Ao47, co47, eo47⟩ := Kd.R_slice HO_22.out);(subst eo47)); (go_wp2); (go_meet)
           case rel => exact ⟨_, (decide ((t268.length : Int) > (t276.length : Int))), (by first | rfl | (simp; done) | (simp [*]; done)), H', ⟨by have := HJ14.out; first | omega | exact Nat.le_refl _⟩, ⟨by (with_reducible repeat first | apply Kd.R_alloc | apply Kd.R_drewN | apply Kd.R_drew); exact HO_13.out⟩, ⟨by (with_reducible repeat first | apply Kd.R_alloc | apply Kd.R_drewN | apply Kd.R_drew); exact HO_15.out⟩, ⟨by (with_reducible repeat (first | apply Kd.V_alloc | apply Kd.V_drewN | apply Kd.V_drew)); exact HO_16.out⟩, ⟨by (with_reducible repeat first | apply Kd.R_alloc | apply Kd.R_drewN | apply Kd.R_drew); exact HO_22.out⟩, ⟨by (with_reducible repeat first | apply Kd.R_alloc | apply Kd.R_drewN | apply Kd.R_drew); exact HO_261003.out⟩, ⟨by (with_reducible repeat first | refine blk_drewN ?_ _ | refine blk_drew ?_ | refine blk_alloc ?_ _); exact BK260.out⟩, ⟨by repeat (first | (with_reducible first | exact HB.out | apply below_alloc | apply pw_below_drewN | apply below_drew1 | refine below_set ?_ GE260.out) | exact HB.out)⟩⟩
        ·(rw [if_neg c43] at H);(have c43b0 : decide (0 ≤ t274) = false := decide_eq_false c43);(clear c43)
         as_aux_lemma =>
          ((have H' := Aside0.mk H);(clear H);(obtain ⟨Ao48, co48, eo48⟩ := Kd.V_slice HO_16.out);(subst eo48);(obtain ⟨Ao49, co49, eo49⟩ := Kd.R_slice HO_22.out);(subst eo49)); (go_wp2); (go_meet)
          case rel => exact ⟨_, (decide ((t268.length : Int) > (t276.length : Int))), (by first | rfl | (simp; done) | (simp [*]; done)), H', ⟨by have := HJ14.out; first | omega | exact Nat.le_refl _⟩, ⟨by (with_reducible repeat first | apply Kd.R_alloc | apply Kd.R_drewN | apply Kd.R_drew); exact HO_13.out⟩, ⟨by (with_reducible repeat first | apply Kd.R_alloc | apply Kd.R_drewN | apply Kd.R_drew); exact HO_15.out⟩, ⟨by (with_reducible repeat (first | apply Kd.V_alloc | apply Kd.V_drewN | apply Kd.V_drew)); exact HO_16.out⟩, ⟨by (with_reducible repeat first | apply Kd.R_alloc | apply Kd.R_drewN | apply Kd.R_drew); exact HO_22.out⟩, ⟨by (with_reducible repeat first | apply Kd.R_alloc | apply Kd.R_drewN | apply Kd.R_drew); exact HO_261003.out⟩, ⟨by (with_reducible repeat first | refine blk_drewN ?_ _ | refine blk_drew ?_ | refine blk_alloc ?_ _); exact BK260.out⟩, ⟨by repeat (first | (with_reducible first | exact HB.out | apply below_alloc | apply pw_below_drewN | apply below_drew1 | refine below_set ?_ GE260.out) | exact HB.out)⟩⟩
       ·(rw [if_neg c42] at H);(have c42b0 : decide (0 ≤ t272) = false := decide_eq_false c42);(clear c42)
        as_aux_lemma =>
         ((have H' := Aside0.mk H);(clear H);(obtain ⟨Ao50, co50, eo50⟩ := Kd.V_slice HO_16.out);(subst eo50)); (go_wp2); (go_meet)
         case rel => exact ⟨_, (true), (by first | rfl | (simp; done) | (simp [*]; done)), H', ⟨by have := HJ14.out; first | omega | exact Nat.le_refl _⟩, ⟨by (with_reducible repeat first | apply Kd.R_alloc | apply Kd.R_drewN | apply Kd.R_drew); exact HO_13.out⟩, ⟨by (with_reducible repeat first | apply Kd.R_alloc | apply Kd.R_drewN | apply Kd.R_drew); exact HO_15.out⟩, ⟨by (with_reducible repeat (first | apply Kd.V_alloc | apply Kd.V_drewN | apply Kd.V_drew)); exact HO_16.out⟩, ⟨by (with_reducible repeat first | apply Kd.R_alloc | apply Kd.R_drewN | apply Kd.R_drew); exact HO_22.out⟩, ⟨by (with_reducible repeat first | apply Kd.R_alloc | apply Kd.R_drewN | apply Kd.R_drew); exact HO_261003.out⟩, ⟨by (with_reducible repeat first | refine blk_drewN ?_ _ | refine blk_drew ?_ | refine blk_alloc ?_ _); exact BK260.out⟩, ⟨by repeat (first | (with_reducible first | exact HB.out | apply below_alloc | apply pw_below_drewN | apply below_drew1 | refine below_set ?_ GE260.out) | exact HB.out)⟩⟩
      ·(rw [if_neg c41] at H);(have c41b0 : decide (0 < (t268.length : Int)) = false := decide_eq_false c41);(have c41b1 : decide (0 < t268.length) = false := decide_eq_false (by omega));(clear c41);((first | rw [c41b0] | (simp only [i64_w, i32_w]; rw [c41b0]) | skip))
       by_cases c51 : t272 ≥ 0
       ·(rw [if_pos c51] at H);(have c51b0 : decide (0 ≤ t272) = true := decide_eq_true c51);(clear c51)
        as_aux_lemma =>
         ((have H' := Aside0.mk H);(clear H);(obtain ⟨Ao52, co52, eo52⟩ := Kd.V_slice HO_16.out);(subst eo52)); (go_wp2); (go_meet)
         case rel => exact ⟨_, (true), (by first | rfl | (simp; done) | (simp [*]; done)), H', ⟨by have := HJ14.out; first | omega | exact Nat.le_refl _⟩, ⟨by (with_reducible repeat first | apply Kd.R_alloc | apply Kd.R_drewN | apply Kd.R_drew); exact HO_13.out⟩, ⟨by (with_reducible repeat first | apply Kd.R_alloc | apply Kd.R_drewN | apply Kd.R_drew); exact HO_15.out⟩, ⟨by (with_reducible repeat (first | apply Kd.V_alloc | apply Kd.V_drewN | apply Kd.V_drew)); exact HO_16.out⟩, ⟨by (with_reducible repeat first | apply Kd.R_alloc | apply Kd.R_drewN | apply Kd.R_drew); exact HO_22.out⟩, ⟨by (with_reducible repeat first | apply Kd.R_alloc | apply Kd.R_drewN | apply Kd.R_drew); exact HO_261003.out⟩, ⟨by (with_reducible repeat first | refine blk_drewN ?_ _ | refine blk_drew ?_ | refine blk_alloc ?_ _); exact BK260.out⟩, ⟨by repeat (first | (with_reducible first | exact HB.out | apply below_alloc | apply pw_below_drewN | apply below_drew1 | refine below_set ?_ GE260.out) | exact HB.out)⟩⟩
       ·(rw [if_neg c51] at H);(have c51b0 : decide (0 ≤ t272) = false := decide_eq_false c51);(clear c51)
        by_cases c53 : t274 ≥ 0
        ·(rw [if_pos c53] at H);(have c53b0 : decide (0 ≤ t274) = true := decide_eq_true c53);(clear c53)
         by_cases c54 : t274 ≤ t272
         ·(rw [if_pos c54] at H);(have c54b0 : decide (t274 ≤ t272) = true := decide_eq_true c54);(clear c54)
          as_aux_lemma =>
           ((have H' := Aside0.mk H);(clear H);(obtain ⟨Ao55, co55, eo55⟩ := Kd.V_slice HO_16.out);(subst eo55)); (go_wp2); (go_meet)
           case rel => exact ⟨_, (true), (by first | rfl | (simp; done) | (simp [*]; done)), H', ⟨by have := HJ14.out; first | omega | exact Nat.le_refl _⟩, ⟨by (with_reducible repeat first | apply Kd.R_alloc | apply Kd.R_drewN | apply Kd.R_drew); exact HO_13.out⟩, ⟨by (with_reducible repeat first | apply Kd.R_alloc | apply Kd.R_drewN | apply Kd.R_drew); exact HO_15.out⟩, ⟨by (with_reducible repeat (first | apply Kd.V_alloc | apply Kd.V_drewN | apply Kd.V_drew)); exact HO_16.out⟩, ⟨by (with_reducible repeat first | apply Kd.R_alloc | apply Kd.R_drewN | apply Kd.R_drew); exact HO_22.out⟩, ⟨by (with_reducible repeat first | apply Kd.R_alloc | apply Kd.R_drewN | apply Kd.R_drew); exact HO_261003.out⟩, ⟨by (with_reducible repeat first | refine blk_drewN ?_ _ | refine blk_drew ?_ | refine blk_alloc ?_ _); exact BK260.out⟩, ⟨by repeat (first | (with_reducible first | exact HB.out | apply below_alloc | apply pw_below_drewN | apply below_drew1 | refine below_set ?_ GE260.out) | exact HB.out)⟩⟩
         ·(rw [if_neg c54] at H);(have c54b0 : decide (t274 ≤ t272) = false := decide_eq_false c54);(clear c54)
          as_aux_lemma =>
           ((have H' := Aside0.mk H);(clear H);(obtain ⟨Ao56, co56, eo56⟩ := Kd.V_slice HO_16.out);(subst eo56);(obtain ⟨Ao57, co57, eo57⟩ := Kd.R_slice HO_22.out);(subst eo57)); (go_wp2); (go_meet)
           case rel => exact ⟨_, (decide ((t268.length : Int) > (t276.length : Int))), (by first | rfl | (simp; done) | (simp [*]; done)), H', ⟨by have := HJ14.out; first | omega | exact Nat.le_refl _⟩, ⟨by (with_reducible repeat first | apply Kd.R_alloc | apply Kd.R_drewN | apply Kd.R_drew); exact HO_13.out⟩, ⟨by (with_reducible repeat first | apply Kd.R_alloc | apply Kd.R_drewN | apply Kd.R_drew); exact HO_15.out⟩, ⟨by (with_reducible repeat (first | apply Kd.V_alloc | apply Kd.V_drewN | apply Kd.V_drew)); exact HO_16.out⟩, ⟨by (with_reducible repeat first | apply Kd.R_alloc | apply Kd.R_drewN | apply Kd.R_drew); exact HO_22.out⟩, ⟨by (with_reducible repeat first | apply Kd.R_alloc | apply Kd.R_drewN | apply Kd.R_drew); exact HO_261003.out⟩, ⟨by (with_reducible repeat first | refine blk_drewN ?_ _ | refine blk_drew ?_ | refine blk_alloc ?_ _); exact BK260.out⟩, ⟨by repeat (first | (with_reducible first | exact HB.out | apply below_alloc | apply pw_below_drewN | apply below_drew1 | refine below_set ?_ GE260.out) | exact HB.out)⟩⟩
        ·(rw [if_neg c53] at H);(have c53b0 : decide (0 ≤ t274) = false := decide_eq_false c53);(clear c53)
         as_aux_lemma =>
          ((have H' := Aside0.mk H);(clear H);(obtain ⟨Ao58, co58, eo58⟩ := Kd.V_slice HO_16.out);(subst eo58);(obtain ⟨Ao59, co59, eo59⟩ := Kd.R_slice HO_22.out);(subst eo59)); (go_wp2); (go_meet)
          case rel => exact ⟨_, (decide ((t268.length : Int) > (t276.length : Int))), (by first | rfl | (simp; done) | (simp [*]; done)), H', ⟨by have := HJ14.out; first | omega | exact Nat.le_refl _⟩, ⟨by (with_reducible repeat first | apply Kd.R_alloc | apply Kd.R_drewN | apply Kd.R_drew); exact HO_13.out⟩, ⟨by (with_reducible repeat first | apply Kd.R_alloc | apply Kd.R_drewN | apply Kd.R_drew); exact HO_15.out⟩, ⟨by (with_reducible repeat (first | apply Kd.V_alloc | apply Kd.V_drewN | apply Kd.V_drew)); exact HO_16.out⟩, ⟨by (with_reducible repeat first | apply Kd.R_alloc | apply Kd.R_drewN | apply Kd.R_drew); exact HO_22.out⟩, ⟨by (with_reducible repeat first | apply Kd.R_alloc | apply Kd.R_drewN | apply Kd.R_drew); exact HO_261003.out⟩, ⟨by (with_reducible repeat first | refine blk_drewN ?_ _ | refine blk_drew ?_ | refine blk_alloc ?_ _); exact BK260.out⟩, ⟨by repeat (first | (with_reducible first | exact HB.out | apply below_alloc | apply pw_below_drewN | apply below_drew1 | refine below_set ?_ GE260.out) | exact HB.out)⟩⟩
     case rest =>
      clear HC40
      try clear c1
      try clear c2
      try clear p2
      try clear c3
      try clear c4
      try clear c5
      try clear p6
      try clear c7
      try clear c12
      try clear c24
      try clear c25
      try clear c26
      try clear c27
      try clear c28
      try clear c31
      try clear c32
      try clear c32b0
      try clear c32b1
      try clear c33
      try clear c33b0
      try clear c33b1
      try clear c34
      try clear c34b0
      try clear c34b1
      try clear c35
      try clear c35b0
      try clear c35b1
      try clear c39
      try clear c41
      try clear c41b0
      try clear c41b1
      try clear c42
      try clear c42b0
      try clear c43
      try clear c43b0
      try clear c44
      try clear c44b0
      try clear c51
      try clear c51b0
      try clear c53
      try clear c53b0
      try clear c54
      try clear c54b0
      try clear hcz19_0
      try clear hcz19_1
      try clear hcz19_2
      try clear hcz19_3
      try clear hcz22_0
      try clear hcz22_1
      try clear hcz22_2
      try clear hcz22_3
      try clear hcz25_0
      try clear hcz25_1
      try clear hcz25_2
      try clear hcz25_3
      try clear hcz27_0
      try clear hcz27_1
      try clear hcz27_2
      try clear hcz27_3
      try clear hcz30_0
      try clear hcz30_1
      try clear hcz30_2
      try clear hcz30_3
      try clear hcz37_0
      try clear hcz37_1
      try clear hcz37_2
      try clear hcz37_3
      try clear hfz19_0
      try clear hfz19_1
      try clear hfz19_2
      try clear hfz19_3
      try clear hfz22_0
      try clear hfz22_1
      try clear hfz22_2
      try clear hfz22_3
      try clear hfz25_0
      try clear hfz25_1
      try clear hfz25_2
      try clear hfz25_3
      try clear hfz27_0
      try clear hfz27_1
      try clear hfz27_2
      try clear hfz27_3
      try clear hfz30_0
      try clear hfz30_1
      try clear hfz30_2
      try clear hfz30_3
      try clear hfz37_0
      try clear hfz37_1
      try clear hfz37_2
      try clear hfz37_3
      try clear p2
      try clear p6
      obtain ⟨kq, x124_39, rfl, HA, HJ39, HO_13, HO_15, HO_16, HO_22, HO_261003, BK260, HB⟩ := hcut
      cases kq with
      | zero => exact absurd HA.out (by simp [racewaylaw8_PlainBlocks.j1])
      | succ kj39 =>
       ((have H := HA.out);(clear HA);(simp only [racewaylaw8_PlainBlocks.j1] at H)); (by_cases c60 : x124_39 = true)
       ·(subst c60);(have H1 : (some false) = some r := by rw [if_pos rfl] at H; exact H);(clear H);(have H := H1);(clear H1);(exact absurd ((Option.some.inj H).trans hrT_.out) (by simp))
       ·(replace c60 := Bool.eq_false_iff.mpr c60);(subst c60);(have H1 : (racewaylaw8_PlainBlocks.l0 kj39 t261 (wrap64 (1 + t264)) t265 t268 t272 t276 t261 0 0 t254 t255 t256 t257) = some r := by rw [if_neg (show ¬ (false = true) by decide)] at H; exact H);(clear H);(have H := H1);(clear H1);(have H' := Aside0.mk H);(clear H)
        (go_wp2); (go_loopg [24, 25, 26] kj39 (fun kq v24 v25 v26 w' => ∃ (x24_3 : List Int) (x25_3 : Int) (x26_3 : Int), v25 = .int .i64 x25_3 ∧ v26 = .int .i64 x26_3 ∧ Aside0 (racewaylaw8_PlainBlocks.l0 kq t261 (wrap64 (1 + t264)) t265 t268 t272 t276 x24_3 x25_3 x26_3 t254 t255 t256 t257 = some r) ∧ Aside0 (kq ≤ kj39) ∧ Aside0 (Kd.R (Kd.int .i64) 2 w' w.heap.size (fun k_ => some k_ ≠ ((.slice Ao28 t265.length co28) : Value).ownBlock) (.slice Ao23 t261.length co23) t261) ∧ Aside0 (Kd.R (Kd.int .i64) 2 w' w.heap.size (fun k_ => some k_ ≠ ((.slice Ao23 t261.length co23) : Value).ownBlock) (.slice Ao28 t265.length co28) t265) ∧ Aside0 (Kd.V k61 61 w' w.heap.size (fun k_ => some k_ ≠ ((.slice Ao23 t261.length co23) : Value).ownBlock ∧ some k_ ≠ ((.slice Ao28 t265.length co28) : Value).ownBlock ∧ some k_ ≠ (v277 : Value).ownBlock ∧ some k_ ≠ ((.slice Ao20 t257.length co20) : Value).ownBlock ∧ k_ ≠ gb260) v269 t268) ∧ Aside0 (Kd.R (Kd.int .i64) 3 w' w.heap.size (fun _ => True) v277 t276) ∧ Aside0 (Kd.V (Kd.int .i64) 2 w' w.heap.size (fun k_ => some k_ ≠ ((.slice Ao28 t265.length co28) : Value).ownBlock ∧ some k_ ≠ (v277 : Value).ownBlock ∧ some k_ ≠ ((.slice Ao20 t257.length co20) : Value).ownBlock ∧ k_ ≠ gb260) v24 x24_3) ∧ Aside0 (Kd.R k30 30 w' w.heap.size (fun _ => True) (.slice Ao20 t257.length co20) t257) ∧ Aside0 (w'.heap[gb260]? = some (.cells #[.int .i64 t254, .int .i64 t255, .int .i64 t256, (.slice Ao20 t257.length co20)] 26 (0, 0))) ∧ Aside0 (Below w.heap.size w w')))
        case atStart => exact ⟨(t261), (0), (0), (by first | rfl | (simp; done) | (simp [*]; done)), (by first | rfl | (simp; done) | (simp [*]; done)), H', ⟨Nat.le_refl _⟩, ⟨by (with_reducible repeat first | apply Kd.R_alloc | apply Kd.R_drewN | apply Kd.R_drew); exact HO_13.out⟩, ⟨by (with_reducible repeat first | apply Kd.R_alloc | apply Kd.R_drewN | apply Kd.R_drew); exact HO_15.out⟩, ⟨by (with_reducible repeat (first | apply Kd.V_alloc | apply Kd.V_drewN | apply Kd.V_drew)); exact HO_16.out⟩, ⟨by (with_reducible repeat first | apply Kd.R_alloc | apply Kd.R_drewN | apply Kd.R_drew); exact HO_22.out⟩, ⟨Kd.R_V (by (with_reducible repeat first | apply Kd.R_alloc | apply Kd.R_drewN | apply Kd.R_drew); exact Kd.R_mono (Kd.R_types (Kd.R_apart' (Kd.R_apart' HO_13.out (Kd.R_typed HO_22.out) (by decide)) (Kd.R_typed HO_261003.out) (by decide)) BK260.out (by decide)) (fun _ hk => ⟨hk.1.1.1, ⟨hk.1.1.2, ⟨hk.1.2, hk.2⟩⟩⟩))⟩, ⟨by (with_reducible repeat first | apply Kd.R_alloc | apply Kd.R_drewN | apply Kd.R_drew); exact HO_261003.out⟩, ⟨by (with_reducible repeat first | refine blk_drewN ?_ _ | refine blk_drew ?_ | refine blk_alloc ?_ _); exact BK260.out⟩, ⟨by repeat (first | (with_reducible first | exact HB.out | apply below_alloc | apply pw_below_drewN | apply below_drew1 | refine below_set ?_ GE260.out) | exact HB.out)⟩⟩
        case round =>
         clear H'
         try clear c1
         try clear c2
         try clear p2
         try clear c3
         try clear c4
         try clear c5
         try clear c6
         try clear p6
         try clear c7
         try clear c12
         try clear c24
         try clear c25
         try clear c26
         try clear c27
         try clear c28
         try clear c31
         try clear c32
         try clear c32b0
         try clear c32b1
         try clear c33
         try clear c33b0
         try clear c33b1
         try clear c34
         try clear c34b0
         try clear c34b1
         try clear c35
         try clear c35b0
         try clear c35b1
         try clear c39
         try clear c41
         try clear c41b0
         try clear c41b1
         try clear c42
         try clear c42b0
         try clear c43
         try clear c43b0
         try clear c44
         try clear c44b0
         try clear c51
         try clear c51b0
         try clear c53
         try clear c53b0
         try clear c54
         try clear c54b0
         try clear c60
         try clear hcz19_0
         try clear hcz19_1
         try clear hcz19_2
         try clear hcz19_3
         try clear hcz22_0
         try clear hcz22_1
         try clear hcz22_2
         try clear hcz22_3
         try clear hcz25_0
         try clear hcz25_1
         try clear hcz25_2
         try clear hcz25_3
         try clear hcz27_0
         try clear hcz27_1
         try clear hcz27_2
         try clear hcz27_3
         try clear hcz30_0
         try clear hcz30_1
         try clear hcz30_2
         try clear hcz30_3
         try clear hcz37_0
         try clear hcz37_1
         try clear hcz37_2
         try clear hcz37_3
         try clear hfz19_0
         try clear hfz19_1
         try clear hfz19_2
         try clear hfz19_3
         try clear hfz22_0
         try clear hfz22_1
         try clear hfz22_2
         try clear hfz22_3
         try clear hfz25_0
         try clear hfz25_1
         try clear hfz25_2
         try clear hfz25_3
         try clear hfz27_0
         try clear hfz27_1
         try clear hfz27_2
         try clear hfz27_3
         try clear hfz30_0
         try clear hfz30_1
         try clear hfz30_2
         try clear hfz30_3
         try clear hfz37_0
         try clear hfz37_1
         try clear hfz37_2
         try clear hfz37_3
         try clear p2
         try clear p6
         obtain ⟨x24_3, x25_3, x26_3, rfl, rfl, HA, HK3, HO_13, HO_15, HO_16, HO_22, HO_24, HO_261003, BK260, HB⟩ := hrel
         cases gk with
         | zero => exact absurd HA.out (by simp [racewaylaw8_PlainBlocks.l0])
         | succ k3 =>
          ((have H := HA.out);(clear HA);(simp only [racewaylaw8_PlainBlocks.l0] at H)); (by_cases c61 : x26_3 < (t268.length : Int))
          ·(rw [if_pos c61] at H);(have c61b0 : decide (x26_3 < (t268.length : Int)) = true := decide_eq_true c61);(clear c61);(replace H := Option.bind_eq_some_iff.mp H);(obtain ⟨⟨t281, t284⟩, A620, H⟩ := H);(replace H : ((residual_Room.f k3 t254 t255 t256 t257 x24_3).bind fun bt285 => (racewaylaw8_PlainBlocks.l1 k3 t261 (wrap64 (1 + t264)) t265 t268 t272 t276 x24_3 x25_3 x26_3 t281 t284 bt285.1 4611686018427387904 0 t254 t255 t256 t257)) = some r := H);(have A62 := Aside0.mk A620);(clear A620);(replace H := Option.bind_eq_some_iff.mp H);(obtain ⟨⟨t285, t288⟩, A630, H⟩ := H);(replace H : (racewaylaw8_PlainBlocks.l1 k3 t261 (wrap64 (1 + t264)) t265 t268 t272 t276 x24_3 x25_3 x26_3 t281 t284 t285 4611686018427387904 0 t254 t255 t256 t257) = some r := H);(have A63 := Aside0.mk A630);(clear A630);(have H' := Aside0.mk H);(clear H);(obtain ⟨Ao64, co64, eo64⟩ := Kd.V_slice HO_16.out);(subst eo64);(have hcz65_0 : wr.cell? ⟨gb260, 0, none⟩ = some (.int .i64 t254) := (blk_cell BK260.out 0).trans rfl);(have hcz65_1 : wr.cell? ⟨gb260, 1, none⟩ = some (.int .i64 t255) := (blk_cell BK260.out 1).trans rfl);(have hcz65_2 : wr.cell? ⟨gb260, 2, none⟩ = some (.int .i64 t256) := (blk_cell BK260.out 2).trans rfl);(have hcz65_3 : wr.cell? ⟨gb260, 3, none⟩ = some (.slice Ao20 t257.length co20) := (blk_cell BK260.out 3).trans rfl);(have hfz65_0 := blk_frozen BK260.out 0);(have hfz65_1 := blk_frozen BK260.out 1);(have hfz65_2 := blk_frozen BK260.out 2);(have hfz65_3 := blk_frozen BK260.out 3);(obtain ⟨Ao66, co66, eo66⟩ := Kd.V_slice HO_24.out);(subst eo66);(obtain ⟨Ao67, co67, eo67⟩ := Kd.R_slice HO_22.out);(subst eo67)
           go_wp2_with (first | ((with_reducible refine gate_callee (f := 35) rfl ?_); refine goesL_ (some 137) rfl rfl Try.func35 (by kernel_rfl) rfl #[.agg #[.int .i64 t254, .int .i64 t255, .int .i64 t256, .slice Ao20 t257.length co20], .slice Ao66 x24_3.length co66, .slice Ao67 t276.length co67, .int .i64 (wrap64 (1 + t264))] rfl (by (try simp only [List.map_toArray, List.map_cons, List.map_nil]); first | done | rfl | (simp only [List.length_drop, List.length_take]; rfl)) ?_; (with_reducible refine (plain_Next.calls k3 t254 t255 t256 _ _ t257 _ _ x24_3 _ _ t276 (wrap64 (1 + t264)) t281 t284 _ ?side1 ?side2 ?side3 ?side4 ?side5 ?side6 A62.out).mono ?_); (case side1 => repeat (first | exact (Kd.R_reads' HO_261003.out).2.2 | (with_reducible refine Kd.C_alloc ?_ _) | (with_reducible refine Kd.C_drewN ?_ _) | (with_reducible refine Kd.C_drew ?_))); (case side2 => exact (Kd.R_reads' HO_261003.out).2.1); (case side3 => repeat (first | exact (Kd.V_reads' HO_24.out).2.2 | (with_reducible refine Kd.C_alloc ?_ _) | (with_reducible refine Kd.C_drewN ?_ _) | (with_reducible refine Kd.C_drew ?_))); (case side4 => exact (Kd.V_reads' HO_24.out).2.1); (case side5 => repeat (first | exact (Kd.R_reads' HO_22.out).2.2 | (with_reducible refine Kd.C_alloc ?_ _) | (with_reducible refine Kd.C_drewN ?_ _) | (with_reducible refine Kd.C_drew ?_))); (case side6 => exact (Kd.R_reads' HO_22.out).2.1); rintro e w68 ⟨v282, rfl, ho0, hb⟩; refine ⟨_, rfl, ?_⟩; have n0_ := Aside0.mk (Kd.R_below (by (with_reducible repeat first | apply Kd.R_alloc | apply Kd.R_drewN | apply Kd.R_drew); exact HO_13.out) hb); have n1_ := Aside0.mk (Kd.R_below (by (with_reducible repeat first | apply Kd.R_alloc | apply Kd.R_drewN | apply Kd.R_drew); exact HO_15.out) hb); have n2_ := Aside0.mk (Kd.V_elder' (by (with_reducible repeat (first | apply Kd.V_alloc | apply Kd.V_drewN | apply Kd.V_drew)); exact HO_16.out) (Kd.R_base ho0) hb); have n3_ := Aside0.mk (Kd.R_elder' (by (with_reducible repeat first | apply Kd.R_alloc | apply Kd.R_drewN | apply Kd.R_drew); exact HO_22.out) (Kd.R_base ho0) hb); have n4_ := Aside0.mk (Kd.V_elder' (by (with_reducible repeat (first | apply Kd.V_alloc | apply Kd.V_drewN | apply Kd.V_drew)); exact HO_24.out) (Kd.R_base ho0) hb); have n5_ := Aside0.mk (Kd.R_below (by (with_reducible repeat first | apply Kd.R_alloc | apply Kd.R_drewN | apply Kd.R_drew); exact HO_261003.out) hb); have n6_ := Aside0.mk (Kd.R_lower (Kd.R_new' ho0 (Kd.R_lt (by (with_reducible repeat first | apply Kd.R_alloc | apply Kd.R_drewN | apply Kd.R_drew); exact HO_22.out))) (below_size (by repeat (first | (with_reducible first | exact HB.out | apply below_alloc | apply pw_below_drewN | apply below_drew1 | refine below_set ?_ GE260.out) | exact HB.out)))); have n7_ := Aside0.mk (blk_below (g := gb260) (o := .cells #[.int .i64 t254, .int .i64 t255, .int .i64 t256, .slice Ao20 t257.length co20] 26 (0, 0)) (by (with_reducible repeat first | refine blk_drewN ?_ _ | refine blk_drew ?_ | refine blk_alloc ?_ _); exact BK260.out) hb); have n8_ := Aside0.mk (below_step (by repeat (first | (with_reducible first | exact HB.out | apply below_alloc | apply pw_below_drewN | apply below_drew1 | refine below_set ?_ GE260.out) | exact HB.out)) hb); clear HO_13; clear HO_15; clear HO_16; clear HO_22; clear HO_24; clear HO_261003; clear BK260; clear HB; have HO_13 := n0_; have HO_15 := n1_; have HO_16 := n2_; have HO_22 := n3_; have HO_24 := n4_; have HO_261003 := n5_; have HO283 := n6_; have BK260 := n7_; have HB := n8_; clear n0_ n1_ n2_ n3_ n4_ n5_ n6_ n7_ n8_; (try clear hb); (try clear hk); (try clear ho0); have hcz69_0 : w68.cell? ⟨gb260, 0, none⟩ = some (.int .i64 t254) := (blk_cell BK260.out 0).trans rfl; have hcz69_1 : w68.cell? ⟨gb260, 1, none⟩ = some (.int .i64 t255) := (blk_cell BK260.out 1).trans rfl; have hcz69_2 : w68.cell? ⟨gb260, 2, none⟩ = some (.int .i64 t256) := (blk_cell BK260.out 2).trans rfl; have hcz69_3 : w68.cell? ⟨gb260, 3, none⟩ = some (.slice Ao20 t257.length co20) := (blk_cell BK260.out 3).trans rfl; have hfz69_0 := blk_frozen BK260.out 0; have hfz69_1 := blk_frozen BK260.out 1; have hfz69_2 := blk_frozen BK260.out 2; have hfz69_3 := blk_frozen BK260.out 3) | ((with_reducible refine gate_callee (f := 29) rfl ?_); refine goesL_ (some 143) rfl rfl Try.func29 (by kernel_rfl) rfl #[.agg #[.int .i64 t254, .int .i64 t255, .int .i64 t256, .slice Ao20 t257.length co20], .slice Ao66 x24_3.length co66] rfl (by (try simp only [List.map_toArray, List.map_cons, List.map_nil]); first | done | rfl | (simp only [List.length_drop, List.length_take]; rfl)) ?_; (with_reducible refine (residual_Room.calls k3 t254 t255 t256 _ _ t257 _ _ x24_3 t285 t288 _ ?side1 ?side2 ?side3 ?side4 A63.out).mono ?_); (case side1 => repeat (first | exact (Kd.R_reads' HO_261003.out).2.2 | (with_reducible refine Kd.C_alloc ?_ _) | (with_reducible refine Kd.C_drewN ?_ _) | (with_reducible refine Kd.C_drew ?_))); (case side2 => exact (Kd.R_reads' HO_261003.out).2.1); (case side3 => repeat (first | exact (Kd.V_reads' HO_24.out).2.2 | (with_reducible refine Kd.C_alloc ?_ _) | (with_reducible refine Kd.C_drewN ?_ _) | (with_reducible refine Kd.C_drew ?_))); (case side4 => exact (Kd.V_reads' HO_24.out).2.1); rintro e w70 ⟨v286, rfl, ho0, hb⟩; refine ⟨_, rfl, ?_⟩; have n0_ := Aside0.mk (Kd.R_elder' (by (with_reducible repeat first | apply Kd.R_alloc | apply Kd.R_drewN | apply Kd.R_drew); exact HO_13.out) (Kd.R_base ho0) hb); have n1_ := Aside0.mk (Kd.R_elder' (by (with_reducible repeat first | apply Kd.R_alloc | apply Kd.R_drewN | apply Kd.R_drew); exact HO_15.out) (Kd.R_base ho0) hb); have n2_ := Aside0.mk (Kd.V_elder' (by (with_reducible repeat (first | apply Kd.V_alloc | apply Kd.V_drewN | apply Kd.V_drew)); exact HO_16.out) (Kd.R_base ho0) hb); have n3_ := Aside0.mk (Kd.R_below (by (with_reducible repeat first | apply Kd.R_alloc | apply Kd.R_drewN | apply Kd.R_drew); exact HO_22.out) hb); have n4_ := Aside0.mk (Kd.V_elder' (by (with_reducible repeat (first | apply Kd.V_alloc | apply Kd.V_drewN | apply Kd.V_drew)); exact HO_24.out) (Kd.R_base ho0) hb); have n5_ := Aside0.mk (Kd.R_below (by (with_reducible repeat first | apply Kd.R_alloc | apply Kd.R_drewN | apply Kd.R_drew); exact HO_261003.out) hb); have n6_ := Aside0.mk (Kd.R_below (by (with_reducible repeat first | apply Kd.R_alloc | apply Kd.R_drewN | apply Kd.R_drew); exact HO283.out) hb); have n7_ := Aside0.mk (Kd.R_lower (Kd.R_new' (Kd.R_new' ho0 (Kd.R_lt (by (with_reducible repeat first | apply Kd.R_alloc | apply Kd.R_drewN | apply Kd.R_drew); exact HO_13.out))) (Kd.R_lt (by (with_reducible repeat first | apply Kd.R_alloc | apply Kd.R_drewN | apply Kd.R_drew); exact HO_15.out))) (below_size (by repeat (first | (with_reducible first | exact HB.out | apply below_alloc | apply pw_below_drewN | apply below_drew1 | refine below_set ?_ GE260.out) | exact HB.out)))); have n8_ := Aside0.mk (blk_below (g := gb260) (o := .cells #[.int .i64 t254, .int .i64 t255, .int .i64 t256, .slice Ao20 t257.length co20] 26 (0, 0)) (by (with_reducible repeat first | refine blk_drewN ?_ _ | refine blk_drew ?_ | refine blk_alloc ?_ _); exact BK260.out) hb); have n9_ := Aside0.mk (below_step (by repeat (first | (with_reducible first | exact HB.out | apply below_alloc | apply pw_below_drewN | apply below_drew1 | refine below_set ?_ GE260.out) | exact HB.out)) hb); clear HO_13; clear HO_15; clear HO_16; clear HO_22; clear HO_24; clear HO_261003; clear HO283; clear BK260; clear HB; have HO_13 := n0_; have HO_15 := n1_; have HO_16 := n2_; have HO_22 := n3_; have HO_24 := n4_; have HO_261003 := n5_; have HO283 := n6_; have HO287 := n7_; have BK260 := n8_; have HB := n9_; clear n0_ n1_ n2_ n3_ n4_ n5_ n6_ n7_ n8_ n9_; (try clear hb); (try clear hk); (try clear ho0)))
           go_loopg [31, 32] k3 (fun kq v31 v32 w' => ∃ (x31_4 : Int) (x32_4 : Int), v31 = .int .i64 x31_4 ∧ v32 = .int .i64 x32_4 ∧ Aside0 (racewaylaw8_PlainBlocks.l1 kq t261 (wrap64 (1 + t264)) t265 t268 t272 t276 x24_3 x25_3 x26_3 t281 t284 t285 x31_4 x32_4 t254 t255 t256 t257 = some r) ∧ Aside0 (kq ≤ k3) ∧ Aside0 (Kd.R (Kd.int .i64) 2 w' w.heap.size (fun k_ => some k_ ≠ ((.slice Ao28 t265.length co28) : Value).ownBlock ∧ some k_ ≠ (v286 : Value).ownBlock) (.slice Ao23 t261.length co23) t261) ∧ Aside0 (Kd.R (Kd.int .i64) 2 w' w.heap.size (fun k_ => some k_ ≠ ((.slice Ao23 t261.length co23) : Value).ownBlock ∧ some k_ ≠ (v286 : Value).ownBlock) (.slice Ao28 t265.length co28) t265) ∧ Aside0 (Kd.V k61 61 w' w.heap.size (fun k_ => some k_ ≠ ((.slice Ao23 t261.length co23) : Value).ownBlock ∧ some k_ ≠ ((.slice Ao28 t265.length co28) : Value).ownBlock ∧ some k_ ≠ ((.slice Ao67 t276.length co67) : Value).ownBlock ∧ some k_ ≠ (v282 : Value).ownBlock ∧ some k_ ≠ (v286 : Value).ownBlock ∧ some k_ ≠ ((.slice Ao20 t257.length co20) : Value).ownBlock ∧ k_ ≠ gb260) (.slice Ao64 t268.length co64) t268) ∧ Aside0 (Kd.R (Kd.int .i64) 3 w' w.heap.size (fun k_ => some k_ ≠ (v282 : Value).ownBlock) (.slice Ao67 t276.length co67) t276) ∧ Aside0 (Kd.V (Kd.int .i64) 2 w' w.heap.size (fun k_ => some k_ ≠ ((.slice Ao28 t265.length co28) : Value).ownBlock ∧ some k_ ≠ ((.slice Ao67 t276.length co67) : Value).ownBlock ∧ some k_ ≠ (v282 : Value).ownBlock ∧ some k_ ≠ (v286 : Value).ownBlock ∧ some k_ ≠ ((.slice Ao20 t257.length co20) : Value).ownBlock ∧ k_ ≠ gb260) (.slice Ao66 x24_3.length co66) x24_3) ∧ Aside0 (Kd.R (Kd.int .i64) 3 w' w.heap.size (fun k_ => some k_ ≠ ((.slice Ao67 t276.length co67) : Value).ownBlock) v282 t281) ∧ Aside0 (Kd.R (Kd.int .i64) 2 w' w.heap.size (fun k_ => some k_ ≠ ((.slice Ao23 t261.length co23) : Value).ownBlock ∧ some k_ ≠ ((.slice Ao28 t265.length co28) : Value).ownBlock) v286 t285) ∧ Aside0 (Kd.R k30 30 w' w.heap.size (fun _ => True) (.slice Ao20 t257.length co20) t257) ∧ Aside0 (w'.heap[gb260]? = some (.cells #[.int .i64 t254, .int .i64 t255, .int .i64 t256, (.slice Ao20 t257.length co20)] 26 (0, 0))) ∧ Aside0 (Below w.heap.size w w'))
           case atStart => exact ⟨(4611686018427387904), (0), (by first | rfl | (simp; done) | (simp [*]; done)), (by first | rfl | (simp; done) | (simp [*]; done)), H', ⟨Nat.le_refl _⟩, ⟨by (with_reducible repeat first | apply Kd.R_alloc | apply Kd.R_drewN | apply Kd.R_drew); exact HO_13.out⟩, ⟨by (with_reducible repeat first | apply Kd.R_alloc | apply Kd.R_drewN | apply Kd.R_drew); exact HO_15.out⟩, ⟨by (with_reducible repeat (first | apply Kd.V_alloc | apply Kd.V_drewN | apply Kd.V_drew)); exact Kd.V_mono HO_16.out (fun _ hk => ⟨hk.1.1.1, ⟨hk.1.1.2.1, ⟨hk.1.1.2.2.1, ⟨hk.1.2, ⟨hk.2, ⟨hk.1.1.2.2.2.1, hk.1.1.2.2.2.2⟩⟩⟩⟩⟩⟩)⟩, ⟨by (with_reducible repeat first | apply Kd.R_alloc | apply Kd.R_drewN | apply Kd.R_drew); exact Kd.R_mono HO_22.out (fun _ hk => hk.2)⟩, ⟨by (with_reducible repeat (first | apply Kd.V_alloc | apply Kd.V_drewN | apply Kd.V_drew)); exact Kd.V_mono HO_24.out (fun _ hk => ⟨hk.1.1.1, ⟨hk.1.1.2.1, ⟨hk.1.2, ⟨hk.2, ⟨hk.1.1.2.2.1, hk.1.1.2.2.2⟩⟩⟩⟩⟩)⟩, ⟨by (with_reducible repeat first | apply Kd.R_alloc | apply Kd.R_drewN | apply Kd.R_drew); exact Kd.R_mono HO283.out (fun _ hk => hk.2)⟩, ⟨by (with_reducible repeat first | apply Kd.R_alloc | apply Kd.R_drewN | apply Kd.R_drew); exact Kd.R_mono HO287.out (fun _ hk => ⟨hk.1.2, hk.2⟩)⟩, ⟨by (with_reducible repeat first | apply Kd.R_alloc | apply Kd.R_drewN | apply Kd.R_drew); exact HO_261003.out⟩, ⟨by (with_reducible repeat first | refine blk_drewN ?_ _ | refine blk_drew ?_ | refine blk_alloc ?_ _); exact BK260.out⟩, ⟨by repeat (first | (with_reducible first | exact HB.out | apply below_alloc | apply pw_below_drewN | apply below_drew1 | refine below_set ?_ GE260.out) | exact HB.out)⟩⟩
           case round =>
            clear H'
            try clear c1
            try clear c2
            try clear p2
            try clear c3
            try clear c4
            try clear c5
            try clear c6
            try clear p6
            try clear c7
            try clear c12
            try clear c24
            try clear c25
            try clear c26
            try clear c27
            try clear c28
            try clear c29
            try clear c31
            try clear c32
            try clear c32b0
            try clear c32b1
            try clear c33
            try clear c33b0
            try clear c33b1
            try clear c34
            try clear c34b0
            try clear c34b1
            try clear c35
            try clear c35b0
            try clear c35b1
            try clear c39
            try clear c41
            try clear c41b0
            try clear c41b1
            try clear c42
            try clear c42b0
            try clear c43
            try clear c43b0
            try clear c44
            try clear c44b0
            try clear c51
            try clear c51b0
            try clear c53
            try clear c53b0
            try clear c54
            try clear c54b0
            try clear c60
            try clear c61
            try clear c61b0
            try clear p64
            try clear hcz19_0
            try clear hcz19_1
            try clear hcz19_2
            try clear hcz19_3
            try clear hcz22_0
            try clear hcz22_1
            try clear hcz22_2
            try clear hcz22_3
            try clear hcz25_0
            try clear hcz25_1
            try clear hcz25_2
            try clear hcz25_3
            try clear hcz27_0
            try clear hcz27_1
            try clear hcz27_2
            try clear hcz27_3
            try clear hcz30_0
            try clear hcz30_1
            try clear hcz30_2
            try clear hcz30_3
            try clear hcz37_0
            try clear hcz37_1
            try clear hcz37_2
            try clear hcz37_3
            try clear hcz65_0
            try clear hcz65_1
            try clear hcz65_2
            try clear hcz65_3
            try clear hcz69_0
            try clear hcz69_1
            try clear hcz69_2
            try clear hcz69_3
            try clear hfz19_0
            try clear hfz19_1
            try clear hfz19_2
            try clear hfz19_3
            try clear hfz22_0
            try clear hfz22_1
            try clear hfz22_2
            try clear hfz22_3
            try clear hfz25_0
            try clear hfz25_1
            try clear hfz25_2
            try clear hfz25_3
            try clear hfz27_0
            try clear hfz27_1
            try clear hfz27_2
            try clear hfz27_3
            try clear hfz30_0
            try clear hfz30_1
            try clear hfz30_2
            try clear hfz30_3
            try clear hfz37_0
            try clear hfz37_1
            try clear hfz37_2
            try clear hfz37_3
            try clear hfz65_0
            try clear hfz65_1
            try clear hfz65_2
            try clear hfz65_3
            try clear hfz69_0
            try clear hfz69_1
            try clear hfz69_2
            try clear hfz69_3
            try clear p2
            try clear p6
            obtain ⟨x31_4, x32_4, rfl, rfl, HA, HK4, HO_13, HO_15, HO_16, HO_22, HO_24, HO_27, HO_29, HO_261003, BK260, HB⟩ := hrel
            cases gk with
            | zero => exact absurd HA.out (by simp [racewaylaw8_PlainBlocks.l1])
            | succ k4 =>
             ((have H := HA.out);(clear HA);(simp only [racewaylaw8_PlainBlocks.l1] at H)); (by_cases c71 : 0 ≤ x26_3)
             ·(rw [if_pos c71] at H);(have c71b0 : decide (0 ≤ x26_3) = true := decide_eq_true c71);(clear c71)
              by_cases c72 : x26_3 < (t268.length : Int)
              ·(rw [if_pos c72] at H);(have c72b0 : decide (x26_3 < (t268.length : Int)) = true := decide_eq_true c72);(clear c72)
               by_cases c73 : x32_4 < (((rd_T61 t268 x26_3).f0).length : Int)
               ·(rw [if_pos c73] at H);(have c73b0 : decide (x32_4 < (((rd_T61 t268 x26_3).f0).length : Int)) = true := decide_eq_true c73);(clear c73)
                by_cases c74 : 0 ≤ x32_4
                ·(rw [if_pos c74] at H);(have c74b0 : decide (0 ≤ x32_4) = true := decide_eq_true c74);(clear c74)
                 by_cases c75 : 0 ≤ (rd ((rd_T61 t268 x26_3).f0) x32_4)
                 ·(rw [if_pos c75] at H);(have c75b0 : decide (0 ≤ (rd ((rd_T61 t268 x26_3).f0) x32_4)) = true := decide_eq_true c75);(clear c75)
                  by_cases c76 : (rd ((rd_T61 t268 x26_3).f0) x32_4) < (t285.length : Int)
                  ·(rw [if_pos c76] at H);(have c76b0 : decide ((rd ((rd_T61 t268 x26_3).f0) x32_4) < (t285.length : Int)) = true := decide_eq_true c76);(clear c76);(obtain ⟨ji77, hji77⟩ : ∃ j_ : Int, (mn x31_4 (rd t285 (rd ((rd_T61 t268 x26_3).f0) x32_4))) = j_ := ⟨_, rfl⟩);(replace H : (racewaylaw8_PlainBlocks.l1 k4 t261 (wrap64 (1 + t264)) t265 t268 t272 t276 x24_3 x25_3 x26_3 t281 t284 t285 ji77 (wrap64 (x32_4 + 1)) t254 t255 t256 t257) = some r := by first | (rw [hji77] at H; exact H) | (simp only [hji77] at H ⊢; exact H));(have hji77_ : (if (rd t285 (rd ((rd_T61 t268 x26_3).f0) x32_4)) < x31_4 then (rd t285 (rd ((rd_T61 t268 x26_3).f0) x32_4)) else x31_4) = ji77 := hji77)
                   as_aux_lemma =>
                    ((have H' := Aside0.mk H);(clear H);(have p289 : 0 ≤ (x26_3 : Int) := of_decide_eq_true (by first | (with_reducible assumption) | assumption));(have q289 : x26_3 < (t268.length : Int) := of_decide_eq_true (by first | (with_reducible assumption) | assumption));(obtain ⟨ad289, A289_0, c289_0, e289, hx289_0, hx289_1, hl289_0, hi289_0⟩ := at_T61 (Kd.V_reads' HO_16.out).2.2 x26_3 p289 q289);(cases e289);(obtain ⟨ce289, hce289, hMe289, hcc289⟩ := Kd.V_get HO_16.out z61 x26_3 p289 (by first | exact q289 | exact of_decide_eq_true (by first | (with_reducible assumption) | assumption) | (have e_ := (Kd.V_reads' HO_16.out).1; omega)));(obtain ⟨ua289_0, uc289_0, rfl, ul289_0, ge289_0⟩ := k61_openF hMe289);(have hv289_0 := hcc289 0 _ rfl);(rw [Nat.add_zero] at hv289_0);(replace hv289_0 := Option.some.inj (hv289_0.symm.trans hx289_0));(injection hv289_0 with hva_ hvn_ hvc_);(rw [hva_] at ge289_0);(rw [hvc_] at ul289_0);(have HL289_0 := Aside0.mk (show Kd.V (Kd.int .i64) 3 _ w.heap.size _ _ ((rd_T61 t268 x26_3).f0) from Kd.V_mk ul289_0 ge289_0));(clear hva_ hvn_ hvc_ ge289_0 ul289_0);(clear hcc289 hce289);(have HR289_0 := Aside0.mk hi289_0);(have HC289_0 := Aside0.mk hl289_0);(clear hi289_0 hl289_0);(replace p289 := eq_true p289);(replace q289 := eq_true q289);(have p290 : 0 ≤ (x26_3 : Int) := of_decide_eq_true (by first | (with_reducible assumption) | assumption));(have q290 : x26_3 < (t268.length : Int) := of_decide_eq_true (by first | (with_reducible assumption) | assumption));(obtain ⟨ad290, A290_0, c290_0, e290, hx290_0, hx290_1, hl290_0, hi290_0⟩ := at_T61 (Kd.V_reads' HO_16.out).2.2 x26_3 p290 q290);(obtain rfl : ad289 = ad290 := (by injection e290));(obtain ⟨ce290, hce290, hMe290, hcc290⟩ := Kd.V_get HO_16.out z61 x26_3 p290 (by first | exact q290 | exact of_decide_eq_true (by first | (with_reducible assumption) | assumption) | (have e_ := (Kd.V_reads' HO_16.out).1; omega)));(obtain ⟨ua290_0, uc290_0, rfl, ul290_0, ge290_0⟩ := k61_openF hMe290);(have hv290_0 := hcc290 0 _ rfl);(rw [Nat.add_zero] at hv290_0);(replace hv290_0 := Option.some.inj (hv290_0.symm.trans hx290_0));(injection hv290_0 with hva_ hvn_ hvc_);(rw [hva_] at ge290_0);(rw [hvc_] at ul290_0);(have HL290_0 := Aside0.mk (show Kd.V (Kd.int .i64) 3 _ w.heap.size _ _ ((rd_T61 t268 x26_3).f0) from Kd.V_mk ul290_0 ge290_0));(clear hva_ hvn_ hvc_ ge290_0 ul290_0);(clear hcc290 hce290);(have HR290_0 := Aside0.mk hi290_0);(have HC290_0 := Aside0.mk hl290_0);(clear hi290_0 hl290_0);(replace p290 := eq_true p290);(replace q290 := eq_true q290);(have ea_ := Option.some.inj (hx289_0.symm.trans hx290_0));(injection ea_ with ea_ en_ ec_);(subst ea_);(subst ec_);(clear en_);(have p291 : 0 ≤ (x32_4 : Int) := of_decide_eq_true (by first | (with_reducible assumption) | assumption));(have q291 : x32_4 < (((rd_T61 t268 x26_3).f0).length : Int) := of_decide_eq_true (by first | (with_reducible assumption) | assumption));(obtain ⟨ad291, e291, hx291_0⟩ := Kd.at_int (by repeat (first | (with_reducible exact HR290_0.out) | (with_reducible refine Kd.C_alloc ?_ _) | (with_reducible refine Kd.C_drewN ?_ _) | (with_reducible refine Kd.C_drew ?_) | exact HR290_0.out)) x32_4 p291 q291);(cases e291);(replace p291 := eq_true p291);(replace q291 := eq_true q291);(obtain ⟨Ao78, co78, eo78⟩ := Kd.R_slice HO_29.out);(subst eo78);(have p292 : 0 ≤ ((rd ((rd_T61 t268 x26_3).f0) x32_4) : Int) := of_decide_eq_true (by first | (with_reducible assumption) | assumption));(have q292 : (rd ((rd_T61 t268 x26_3).f0) x32_4) < (t285.length : Int) := of_decide_eq_true (by first | (with_reducible assumption) | assumption));(obtain ⟨ad292, e292, hx292_0⟩ := Kd.at_int (Kd.R_reads' HO_29.out).2.2 (rd ((rd_T61 t268 x26_3).f0) x32_4) p292 q292);(cases e292);(replace p292 := eq_true p292);(replace q292 := eq_true q292)); (go_wp2); (go_roundg k4)
                    case measure => have := HJ14.out; have := HJ39.out; have := HK3.out; have := HK4.out; omega
                    case rel => exact ⟨(ji77), (wrap64 (x32_4 + 1)), (by first | rfl | (simp; done) | (simp only [← hji77] <;> (first | rfl | simp)) | (simp [*]; done)), (by first | rfl | (simp; done) | (simp [*]; done)), H', ⟨by have := HJ14.out; have := HJ39.out; have := HK3.out; have := HK4.out; omega⟩, ⟨by (with_reducible repeat first | apply Kd.R_alloc | apply Kd.R_drewN | apply Kd.R_drew); exact HO_13.out⟩, ⟨by (with_reducible repeat first | apply Kd.R_alloc | apply Kd.R_drewN | apply Kd.R_drew); exact HO_15.out⟩, ⟨by (with_reducible repeat (first | apply Kd.V_alloc | apply Kd.V_drewN | apply Kd.V_drew)); exact HO_16.out⟩, ⟨by (with_reducible repeat first | apply Kd.R_alloc | apply Kd.R_drewN | apply Kd.R_drew); exact HO_22.out⟩, ⟨by (with_reducible repeat (first | apply Kd.V_alloc | apply Kd.V_drewN | apply Kd.V_drew)); exact HO_24.out⟩, ⟨by (with_reducible repeat first | apply Kd.R_alloc | apply Kd.R_drewN | apply Kd.R_drew); exact HO_27.out⟩, ⟨by (with_reducible repeat first | apply Kd.R_alloc | apply Kd.R_drewN | apply Kd.R_drew); exact HO_29.out⟩, ⟨by (with_reducible repeat first | apply Kd.R_alloc | apply Kd.R_drewN | apply Kd.R_drew); exact HO_261003.out⟩, ⟨by (with_reducible repeat first | refine blk_drewN ?_ _ | refine blk_drew ?_ | refine blk_alloc ?_ _); exact BK260.out⟩, ⟨by repeat (first | (with_reducible first | exact HB.out | apply below_alloc | apply pw_below_drewN | apply below_drew1 | refine below_set ?_ GE260.out) | exact HB.out)⟩⟩
                  ·(rw [if_neg c76] at H);(exact absurd H (by simp))
                 ·(rw [if_neg c75] at H);(exact absurd H (by simp))
                ·(rw [if_neg c74] at H);(exact absurd H (by simp))
               ·(rw [if_neg c73] at H);(have c73b0 : decide (x32_4 < (((rd_T61 t268 x26_3).f0).length : Int)) = false := decide_eq_false c73);(clear c73);(replace H := Option.bind_eq_some_iff.mp H);(obtain ⟨⟨t295, t298⟩, A790, H⟩ := H);(replace H : (if t284 = true then ((racewaylaw8_same.f k4 t281 ((rd_T61 t268 x26_3).f0)).bind fun t300 => (if t300 = true then (if (t281.length : Int) = t272 then (if x31_4 = ((rd_T61 t268 x26_3).f1) then (if x31_4 < (wrap64 (1 + t264)) then (some false) else (if t298 = 0 then (racewaylaw8_PlainBlocks.l0 k4 t261 (wrap64 (1 + t264)) t265 t268 t272 t276 t295 (wrap64 (x25_3 + x31_4)) (wrap64 (x26_3 + 1)) t254 t255 t256 t257) else (some false))) else (some false)) else (some false)) else (some false))) else (some false)) = some r := H);(have A79 := Aside0.mk A790);(clear A790)
                by_cases c80 : t284 = true
                ·(subst c80);(have H1 : ((racewaylaw8_same.f k4 t281 ((rd_T61 t268 x26_3).f0)).bind fun t300 => (if t300 = true then (if (t281.length : Int) = t272 then (if x31_4 = ((rd_T61 t268 x26_3).f1) then (if x31_4 < (wrap64 (1 + t264)) then (some false) else (if t298 = 0 then (racewaylaw8_PlainBlocks.l0 k4 t261 (wrap64 (1 + t264)) t265 t268 t272 t276 t295 (wrap64 (x25_3 + x31_4)) (wrap64 (x26_3 + 1)) t254 t255 t256 t257) else (some false))) else (some false)) else (some false)) else (some false))) = some r := by rw [if_pos rfl] at H; exact H);(clear H);(have H := H1);(clear H1);(replace H := Option.bind_eq_some_iff.mp H);(obtain ⟨t300, A810, H⟩ := H);(replace H : (if t300 = true then (if (t281.length : Int) = t272 then (if x31_4 = ((rd_T61 t268 x26_3).f1) then (if x31_4 < (wrap64 (1 + t264)) then (some false) else (if t298 = 0 then (racewaylaw8_PlainBlocks.l0 k4 t261 (wrap64 (1 + t264)) t265 t268 t272 t276 t295 (wrap64 (x25_3 + x31_4)) (wrap64 (x26_3 + 1)) t254 t255 t256 t257) else (some false))) else (some false)) else (some false)) else (some false)) = some r := H);(have A81 := Aside0.mk A810);(clear A810)
                 by_cases c82 : t300 = true
                 ·(subst c82);(have H1 : (if (t281.length : Int) = t272 then (if x31_4 = ((rd_T61 t268 x26_3).f1) then (if x31_4 < (wrap64 (1 + t264)) then (some false) else (if t298 = 0 then (racewaylaw8_PlainBlocks.l0 k4 t261 (wrap64 (1 + t264)) t265 t268 t272 t276 t295 (wrap64 (x25_3 + x31_4)) (wrap64 (x26_3 + 1)) t254 t255 t256 t257) else (some false))) else (some false)) else (some false)) = some r := by rw [if_pos rfl] at H; exact H);(clear H);(have H := H1);(clear H1)
                  by_cases c83 : (t281.length : Int) = t272
                  ·(rw [if_pos c83] at H);(have c83b0 : ((t281.length : Int) == t272) = true := beq_iff_eq.mpr c83);(have c83b1 : ((t281.length : Int) != t272) = false := bne_eq_false_iff_eq.mpr c83);(clear c83)
                   by_cases c84 : x31_4 = ((rd_T61 t268 x26_3).f1)
                   ·(rw [if_pos c84] at H);(have c84b0 : (x31_4 == ((rd_T61 t268 x26_3).f1)) = true := beq_iff_eq.mpr c84);(have c84b1 : (x31_4 != ((rd_T61 t268 x26_3).f1)) = false := bne_eq_false_iff_eq.mpr c84);(clear c84)
                    by_cases c85 : x31_4 < (wrap64 (1 + t264))
                    ·(rw [if_pos c85] at H);(have c85b0 : decide (x31_4 < (wrap64 (1 + t264))) = true := decide_eq_true c85);(clear c85);(exact absurd ((Option.some.inj H).trans hrT_.out) (by simp))
                    ·(rw [if_neg c85] at H);(have c85b0 : decide (x31_4 < (wrap64 (1 + t264))) = false := decide_eq_false c85);(clear c85)
                     by_cases c86 : t298 = 0
                     ·(rw [if_pos c86] at H);(have c86b0 : (t298 == 0) = true := beq_iff_eq.mpr c86);(have c86b1 : (t298 != 0) = false := bne_eq_false_iff_eq.mpr c86);(clear c86)
                      as_aux_lemma =>
                       (have H' := Aside0.mk H);(clear H);(have p289 : 0 ≤ (x26_3 : Int) := of_decide_eq_true (by first | (with_reducible assumption) | assumption));(have q289 : x26_3 < (t268.length : Int) := of_decide_eq_true (by first | (with_reducible assumption) | assumption));(obtain ⟨ad289, A289_0, c289_0, e289, hx289_0, hx289_1, hl289_0, hi289_0⟩ := at_T61 (Kd.V_reads' HO_16.out).2.2 x26_3 p289 q289);(cases e289);(obtain ⟨ce289, hce289, hMe289, hcc289⟩ := Kd.V_get HO_16.out z61 x26_3 p289 (by first | exact q289 | exact of_decide_eq_true (by first | (with_reducible assumption) | assumption) | (have e_ := (Kd.V_reads' HO_16.out).1; omega)));(obtain ⟨ua289_0, uc289_0, rfl, ul289_0, ge289_0⟩ := k61_openF hMe289);(have hv289_0 := hcc289 0 _ rfl);(rw [Nat.add_zero] at hv289_0);(replace hv289_0 := Option.some.inj (hv289_0.symm.trans hx289_0));(injection hv289_0 with hva_ hvn_ hvc_);(rw [hva_] at ge289_0);(rw [hvc_] at ul289_0);(have HL289_0 := Aside0.mk (show Kd.V (Kd.int .i64) 3 _ w.heap.size _ _ ((rd_T61 t268 x26_3).f0) from Kd.V_mk ul289_0 ge289_0));(clear hva_ hvn_ hvc_ ge289_0 ul289_0);(clear hcc289 hce289);(have HR289_0 := Aside0.mk hi289_0);(have HC289_0 := Aside0.mk hl289_0);(clear hi289_0 hl289_0);(replace p289 := eq_true p289);(replace q289 := eq_true q289)
                       try go_wp2
                       ((have n0_ := Aside0.mk (Kd.R_drew HO_13.out));(have n1_ := Aside0.mk (Kd.R_drew HO_15.out));(have n2_ := Aside0.mk (Kd.V_drew HO_16.out));(have n3_ := Aside0.mk (Kd.R_drew HO_22.out));(have n4_ := Aside0.mk (Kd.V_drew HO_24.out));(have n5_ := Aside0.mk (Kd.R_drew HO_27.out));(have n6_ := Aside0.mk (Kd.R_drew HO_29.out));(have n7_ := Aside0.mk (Kd.R_drew HO_261003.out));(have n8_ := Aside0.mk (Kd.V_drew HL289_0.out));(have n9_ := Aside0.mk (blk_drew BK260.out));(have n10_ := Aside0.mk (Kd.C_drew HR289_0.out));(have n11_ := Aside0.mk (below_drew1 HB.out));(clear HO_13);(clear HO_15);(clear HO_16);(clear HO_22);(clear HO_24);(clear HO_27);(clear HO_29);(clear HO_261003);(clear HL289_0);(clear BK260);(clear HR289_0);(clear HB);(have HO_13 := n0_);(have HO_15 := n1_);(have HO_16 := n2_);(have HO_22 := n3_);(have HO_24 := n4_);(have HO_27 := n5_);(have HO_29 := n6_);(have HO_261003 := n7_);(have HL289_0 := n8_);(have BK260 := n9_);(have HR289_0 := n10_);(have HB := n11_);(clear n0_ n1_ n2_ n3_ n4_ n5_ n6_ n7_ n8_ n9_ n10_ n11_);(have p293 : 0 ≤ (x26_3 : Int) := of_decide_eq_true (by first | (with_reducible assumption) | assumption));(have q293 : x26_3 < (t268.length : Int) := of_decide_eq_true (by first | (with_reducible assumption) | assumption));(obtain ⟨ad293, A293_0, c293_0, e293, hx293_0, hx293_1, hl293_0, hi293_0⟩ := at_T61 (Kd.V_reads' HO_16.out).2.2 x26_3 p293 q293);(obtain rfl : ad289 = ad293 := (by injection e293));(obtain ⟨ce293, hce293, hMe293, hcc293⟩ := Kd.V_get HO_16.out z61 x26_3 p293 (by first | exact q293 | exact of_decide_eq_true (by first | (with_reducible assumption) | assumption) | (have e_ := (Kd.V_reads' HO_16.out).1; omega)));(obtain ⟨ua293_0, uc293_0, rfl, ul293_0, ge293_0⟩ := k61_openF hMe293);(have hv293_0 := hcc293 0 _ rfl);(rw [Nat.add_zero] at hv293_0);(replace hv293_0 := Option.some.inj (hv293_0.symm.trans hx293_0));(injection hv293_0 with hva_ hvn_ hvc_);(rw [hva_] at ge293_0);(rw [hvc_] at ul293_0);(have HL293_0 := Aside0.mk (show Kd.V (Kd.int .i64) 3 _ w.heap.size _ _ ((rd_T61 t268 x26_3).f0) from Kd.V_mk ul293_0 ge293_0));(clear hva_ hvn_ hvc_ ge293_0 ul293_0);(clear hcc293 hce293);(have HR293_0 := Aside0.mk hi293_0);(have HC293_0 := Aside0.mk hl293_0);(clear hi293_0 hl293_0);(replace p293 := eq_true p293);(replace q293 := eq_true q293);(have p294 : 0 ≤ (x26_3 : Int) := of_decide_eq_true (by first | (with_reducible assumption) | assumption));(have q294 : x26_3 < (t268.length : Int) := of_decide_eq_true (by first | (with_reducible assumption) | assumption));(obtain ⟨ad294, A294_0, c294_0, e294, hx294_0, hx294_1, hl294_0, hi294_0⟩ := at_T61 (Kd.V_reads' HO_16.out).2.2 x26_3 p294 q294);(obtain rfl : ad289 = ad294 := (by injection e294));(obtain ⟨ce294, hce294, hMe294, hcc294⟩ := Kd.V_get HO_16.out z61 x26_3 p294 (by first | exact q294 | exact of_decide_eq_true (by first | (with_reducible assumption) | assumption) | (have e_ := (Kd.V_reads' HO_16.out).1; omega)));(obtain ⟨ua294_0, uc294_0, rfl, ul294_0, ge294_0⟩ := k61_openF hMe294);(have hv294_0 := hcc294 0 _ rfl);(rw [Nat.add_zero] at hv294_0);(replace hv294_0 := Option.some.inj (hv294_0.symm.trans hx294_0));(injection hv294_0 with hva_ hvn_ hvc_);(rw [hva_] at ge294_0);(rw [hvc_] at ul294_0);(have HL294_0 := Aside0.mk (show Kd.V (Kd.int .i64) 3 _ w.heap.size _ _ ((rd_T61 t268 x26_3).f0) from Kd.V_mk ul294_0 ge294_0));(clear hva_ hvn_ hvc_ ge294_0 ul294_0);(clear hcc294 hce294);(have HR294_0 := Aside0.mk hi294_0);(have HC294_0 := Aside0.mk hl294_0);(clear hi294_0 hl294_0);(replace p294 := eq_true p294);(replace q294 := eq_true q294);(have ea_ := Option.some.inj (hx293_0.symm.trans hx294_0));(injection ea_ with ea_ en_ ec_);(subst ea_);(subst ec_);(clear en_);(refine start_ (n := 18) (S := fun w' => w'.cell? ⟨gb260, 0, none⟩ = some (.int .i64 t254) ∧ w'.cell? ⟨gb260, 1, none⟩ = some (.int .i64 t255) ∧ w'.cell? ⟨gb260, 2, none⟩ = some (.int .i64 t256) ∧ w'.cell? ⟨gb260, 3, none⟩ = some (.slice Ao20 t257.length co20) ∧ w'.cell? (ad289.add ((x26_3).toNat * 2)) = some (.slice A293_0 ((rd_T61 t268 x26_3).f0).length c293_0) ∧ w'.cell? ⟨(ad289.add ((x26_3).toNat * 2)).block, (ad289.add ((x26_3).toNat * 2)).off + 1, none⟩ = some (.int .i64 ((rd_T61 t268 x26_3).f1)) ∧ w'.cell? (ad289.add ((x26_3).toNat * 2)) = some (.slice A293_0 ((rd_T61 t268 x26_3).f0).length c293_0) ∧ w'.cell? ⟨(ad289.add ((x26_3).toNat * 2)).block, (ad289.add ((x26_3).toNat * 2)).off + 1, none⟩ = some (.int .i64 ((rd_T61 t268 x26_3).f1))) (ds := []) #[F,F,F,F,F,F,F,F,F,F,F,F,F,F,F,F,F,F] (by kernel_rfl) rfl rfl ⟨(blk_cell BK260.out 0).trans rfl, (blk_cell BK260.out 1).trans rfl, (blk_cell BK260.out 2).trans rfl, (blk_cell BK260.out 3).trans rfl, hx293_0, hx293_1, hx294_0, hx294_1⟩ (fun hHeld => ?_); refine with_tabW racewaylaw8_PlainBlocks.tab27 racewaylaw8_PlainBlocks.bits27 (fun HT_ HW_ => ?_));(generalize wr.drew = w87 at HO_13 HO_15 HO_16 HO_22 HO_24 HO_27 HO_29 HO_261003 HL289_0 BK260 HR289_0 HB HL293_0 HL294_0 HR293_0 HR294_0 hx293_0 hx293_1 hx294_0 hx294_1 hHeld ⊢);(refine pure_ (i := 1) (N := some 171) (v := ?_) (a' := ?_) #[F,T,F,F,F,F,F,F,F,F,F,F,F,F,F,F,F,F] rfl rfl (any_of HT_.out (by kernel_rfl)) (fun _ _ _ h => h) (Or.inl ⟨by rfl, ?_⟩) ?_ ?_)); rotate_left; (·intro w'; go_simp; with_reducible rfl); rotate_left; (·(simp only [Act.put, sA_, sZ_, sS_, i64_w, i32_w]); rfl); (refine pure_ (i := 2) (N := some 172) (v := ?_) (a' := ?_) #[F,T,T,F,F,F,F,F,F,F,F,F,F,F,F,F,F,F] rfl rfl (any_of HT_.out (by kernel_rfl)) (fun _ _ _ h => h) (Or.inl ⟨by rfl, ?_⟩) ?_ ?_); rotate_left; (·intro w'; go_simp; with_reducible rfl); rotate_left; (·(simp only [Act.put, sA_, sZ_, sS_, i64_w, i32_w]); rfl); (refine pure_ (i := 3) (N := some 173) (v := ?_) (a' := ?_) #[F,T,T,T,F,F,F,F,F,F,F,F,F,F,F,F,F,F] rfl rfl (any_of HT_.out (by kernel_rfl)) (fun _ _ _ h => h) (Or.inl ⟨by rfl, ?_⟩) ?_ ?_)
                       rotate_left; (·intro w'; go_simp; with_reducible rfl); rotate_left; (·(simp only [Act.put, sA_, sZ_, sS_, i64_w, i32_w]); rfl); (refine pure_ (i := 4) (N := some 174) (v := ?_) (a' := ?_) #[F,T,T,T,T,F,F,F,F,F,F,F,F,F,F,F,F,F] rfl rfl (any_of HT_.out (by kernel_rfl)) (fun _ _ _ h => h) (Or.inl ⟨by rfl, ?_⟩) ?_ ?_); rotate_left; (·intro w'; go_simp; with_reducible rfl); rotate_left; (·(simp only [Act.put, sA_, sZ_, sS_, i64_w, i32_w]); rfl); (refine pure_ (i := 5) (N := some 175) (v := ?_) (a' := ?_) #[F,T,T,T,T,T,F,F,F,F,F,F,F,F,F,F,F,F] rfl rfl (any_of HT_.out (by kernel_rfl)) (fun _ _ _ h => h) (Or.inl ⟨by rfl, ?_⟩) ?_ ?_); rotate_left; (·intro w'; go_simp; with_reducible rfl); rotate_left; (·(simp only [Act.put, sA_, sZ_, sS_, i64_w, i32_w]); rfl); (refine pure_ (i := 7) (N := some 177) (v := ?_) (a' := ?_) #[F,T,T,T,T,T,F,T,F,F,F,F,F,F,F,F,F,F] rfl rfl (any_of HT_.out (by kernel_rfl)) (fun _ _ _ h => h) (Or.inl ⟨by rfl, ?_⟩) ?_ ?_); rotate_left; (·intro w'; go_simp; with_reducible rfl); rotate_left; (·(simp only [Act.put, sA_, sZ_, sS_, i64_w, i32_w]); rfl); (refine pure_ (i := 8) (N := some 178) (v := ?_) (a' := ?_) #[F,T,T,T,T,T,F,T,T,F,F,F,F,F,F,F,F,F] rfl rfl (any_of HT_.out (by kernel_rfl)) (fun _ _ _ h => h) (Or.inl ⟨by rfl, ?_⟩) ?_ ?_); rotate_left; (·intro w'; go_simp; with_reducible rfl); rotate_left; (·(simp only [Act.put, sA_, sZ_, sS_, i64_w, i32_w]); rfl); (refine pure_ (i := 9) (N := some 179) (v := ?_) (a' := ?_) #[F,T,T,T,T,T,F,T,T,T,F,F,F,F,F,F,F,F] rfl rfl (any_of HT_.out (by kernel_rfl)) (fun _ _ _ h => h) (Or.inl ⟨by rfl, ?_⟩) ?_ ?_); rotate_left; (·intro w'; go_simp; with_reducible rfl); rotate_left; (·(simp only [Act.put, sA_, sZ_, sS_, i64_w, i32_w]); rfl); (refine pure_ (i := 10) (N := some 180) (v := ?_) (a' := ?_) #[F,T,T,T,T,T,F,T,T,T,T,F,F,F,F,F,F,F] rfl rfl (any_of HT_.out (by kernel_rfl)) (fun _ _ _ h => h) (Or.inl ⟨by rfl, ?_⟩) ?_ ?_); rotate_left; (·intro w'; go_simp; with_reducible rfl); rotate_left; (·(simp only [Act.put, sA_, sZ_, sS_, i64_w, i32_w]); rfl); (refine take_ (i := 0) (N := some 170) (v := ?_) (a' := ?_) #[T,T,T,T,T,T,F,T,T,T,T,F,F,F,F,F,F,F] rfl rfl (take_ofW HT_.out HW_.out (by kernel_rfl)) (fun _ _ _ h => h) (Or.inl ⟨by rfl, ?_⟩) hHeld ?_ ?_); rotate_left; (·(rintro w' ⟨s0, s1, s2, s3, s4, s5, s6, s7⟩); go_simp; with_reducible rfl); rotate_left; (·(simp only [Act.put, sA_, sZ_, sS_, i64_w, i32_w]); rfl); (refine take_ (i := 6) (N := some 176) (v := ?_) (a' := ?_) #[T,T,T,T,T,T,T,T,T,T,T,F,F,F,F,F,F,F] rfl rfl (take_ofW HT_.out HW_.out (by kernel_rfl)) (fun _ _ _ h => h) (Or.inl ⟨by rfl, ?_⟩) hHeld ?_ ?_); rotate_left; (·(rintro w' ⟨s0, s1, s2, s3, s4, s5, s6, s7⟩); go_simp; with_reducible rfl); rotate_left; (·(simp only [Act.put, sA_, sZ_, sS_, i64_w, i32_w]); rfl); (refine take_ (i := 11) (N := some 181) (v := ?_) (a' := ?_) #[T,T,T,T,T,T,T,T,T,T,T,T,F,F,F,F,F,F] rfl rfl (take_ofW HT_.out HW_.out (by kernel_rfl)) (fun _ _ _ h => h) (Or.inl ⟨by rfl, ?_⟩) hHeld ?_ ?_); rotate_left; (·(rintro w' ⟨s0, s1, s2, s3, s4, s5, s6, s7⟩); go_simp; with_reducible rfl); rotate_left; (·(simp only [Act.put, sA_, sZ_, sS_, i64_w, i32_w]); rfl); ((refine one_ (i := 12) (N := some 182) #[T,T,T,T,T,T,T,T,T,T,T,T,T,F,F,F,F,F] rfl rfl (one_of HT_.out (by kernel_rfl)) (by decide) (fun K hK => ?_));(refine goes_ Try.func36 (by kernel_rfl) rfl #[.agg #[.int .i64 t254, .int .i64 t255, .int .i64 t256, .slice Ao20 t257.length co20], .slice Ao66 x24_3.length co66, .slice A293_0 ((rd_T61 t268 x26_3).f0).length c293_0, .int .i64 ((rd_T61 t268 x26_3).f1)] (by rfl) rfl rfl (by (try simp only [List.map_toArray, List.map_cons, List.map_nil]); first | done | rfl | (simp only [List.length_drop, List.length_take]; rfl)) ?_)); (with_reducible refine (residual_Push.calls k4 t254 t255 t256 _ _ t257 _ _ x24_3 _ _ ((rd_T61 t268 x26_3).f0) ((rd_T61 t268 x26_3).f1) t295 t298 _ ?side1 ?side2 ?side3 ?side4 ?side5 ?side6 A79.out).mono ?_); (case side1 => repeat (first | exact (Kd.R_reads' HO_261003.out).2.2 | (with_reducible refine Kd.C_alloc ?_ _) | (with_reducible refine Kd.C_drewN ?_ _) | (with_reducible refine Kd.C_drew ?_))); (case side2 => exact (Kd.R_reads' HO_261003.out).2.1); (case side3 => repeat (first | exact (Kd.V_reads' HO_24.out).2.2 | (with_reducible refine Kd.C_alloc ?_ _) | (with_reducible refine Kd.C_drewN ?_ _) | (with_reducible refine Kd.C_drew ?_))); (case side4 => exact (Kd.V_reads' HO_24.out).2.1); (case side5 => repeat (first | exact (by repeat (first | (with_reducible exact HR293_0.out) | (with_reducible refine Kd.C_alloc ?_ _) | (with_reducible refine Kd.C_drewN ?_ _) | (with_reducible refine Kd.C_drew ?_) | exact HR293_0.out)) | (with_reducible refine Kd.C_alloc ?_ _) | (with_reducible refine Kd.C_drewN ?_ _) | (with_reducible refine Kd.C_drew ?_))); (case side6 => exact HC293_0.out)
                       ((rintro e w88 ⟨v296, rfl, ho0, hb⟩);(have HS4_ := (hb.cell (World.block_lt_of_cell? _ _ (hHeld.2.2.2.2.1))).trans (hHeld.2.2.2.2.1));(have HS5_ := (hb.cell (World.block_lt_of_cell? _ _ (hHeld.2.2.2.2.2.1))).trans (hHeld.2.2.2.2.2.1));(have HS6_ := (hb.cell (World.block_lt_of_cell? _ _ (hHeld.2.2.2.2.2.2.1))).trans (hHeld.2.2.2.2.2.2.1));(have HS7_ := (hb.cell (World.block_lt_of_cell? _ _ (hHeld.2.2.2.2.2.2.2))).trans (hHeld.2.2.2.2.2.2.2));(refine ⟨_, rfl, ?_⟩);(have n0_ := Aside0.mk (Kd.R_elder' (by (with_reducible repeat first | apply Kd.R_alloc | apply Kd.R_drewN | apply Kd.R_drew); exact HO_13.out) (Kd.R_base ho0) hb));(have n1_ := Aside0.mk (Kd.R_elder' (by (with_reducible repeat first | apply Kd.R_alloc | apply Kd.R_drewN | apply Kd.R_drew); exact HO_15.out) (Kd.R_base ho0) hb));(have n2_ := Aside0.mk (Kd.V_elder' (by (with_reducible repeat (first | apply Kd.V_alloc | apply Kd.V_drewN | apply Kd.V_drew)); exact HO_16.out) (Kd.R_base ho0) hb));(have n3_ := Aside0.mk (Kd.R_below (by (with_reducible repeat first | apply Kd.R_alloc | apply Kd.R_drewN | apply Kd.R_drew); exact HO_22.out) hb));(have n4_ := Aside0.mk (Kd.V_elder' (by (with_reducible repeat (first | apply Kd.V_alloc | apply Kd.V_drewN | apply Kd.V_drew)); exact HO_24.out) (Kd.R_base ho0) hb));(have n5_ := Aside0.mk (Kd.R_below (by (with_reducible repeat first | apply Kd.R_alloc | apply Kd.R_drewN | apply Kd.R_drew); exact HO_27.out) hb));(have n6_ := Aside0.mk (Kd.R_elder' (by (with_reducible repeat first | apply Kd.R_alloc | apply Kd.R_drewN | apply Kd.R_drew); exact HO_29.out) (Kd.R_base ho0) hb));(have n7_ := Aside0.mk (Kd.R_below (by (with_reducible repeat first | apply Kd.R_alloc | apply Kd.R_drewN | apply Kd.R_drew); exact HO_261003.out) hb));(have n8_ := Aside0.mk (Kd.V_elder' (by (with_reducible repeat (first | apply Kd.V_alloc | apply Kd.V_drewN | apply Kd.V_drew)); exact HL289_0.out) (Kd.R_base ho0) hb));(have n9_ := Aside0.mk (Kd.V_elder' (by (with_reducible repeat (first | apply Kd.V_alloc | apply Kd.V_drewN | apply Kd.V_drew)); exact HL293_0.out) (Kd.R_base ho0) hb));(have n10_ := Aside0.mk (Kd.V_elder' (by (with_reducible repeat (first | apply Kd.V_alloc | apply Kd.V_drewN | apply Kd.V_drew)); exact HL294_0.out) (Kd.R_base ho0) hb));(have n11_ := Aside0.mk (Kd.R_lower (Kd.R_new' (Kd.R_new' (Kd.R_new' ho0 (Kd.R_lt (by (with_reducible repeat first | apply Kd.R_alloc | apply Kd.R_drewN | apply Kd.R_drew); exact HO_13.out))) (Kd.R_lt (by (with_reducible repeat first | apply Kd.R_alloc | apply Kd.R_drewN | apply Kd.R_drew); exact HO_15.out))) (Kd.R_lt (by (with_reducible repeat first | apply Kd.R_alloc | apply Kd.R_drewN | apply Kd.R_drew); exact HO_29.out))) (below_size (by repeat (first | (with_reducible first | exact HB.out | apply below_alloc | apply pw_below_drewN | apply below_drew1 | refine below_set ?_ GE260.out) | exact HB.out)))));(have n12_ := Aside0.mk (blk_below (g := gb260) (o := .cells #[.int .i64 t254, .int .i64 t255, .int .i64 t256, .slice Ao20 t257.length co20] 26 (0, 0)) (by (with_reducible repeat first | refine blk_drewN ?_ _ | refine blk_drew ?_ | refine blk_alloc ?_ _); exact BK260.out) hb));(have n13_ := Aside0.mk (Kd.C_below (by repeat (first | (with_reducible exact HR289_0.out) | (with_reducible refine Kd.C_alloc ?_ _) | (with_reducible refine Kd.C_drewN ?_ _) | (with_reducible refine Kd.C_drew ?_) | exact HR289_0.out)) hb));(have n14_ := Aside0.mk (Kd.C_below (by repeat (first | (with_reducible exact HR293_0.out) | (with_reducible refine Kd.C_alloc ?_ _) | (with_reducible refine Kd.C_drewN ?_ _) | (with_reducible refine Kd.C_drew ?_) | exact HR293_0.out)) hb));(have n15_ := Aside0.mk (Kd.C_below (by repeat (first | (with_reducible exact HR294_0.out) | (with_reducible refine Kd.C_alloc ?_ _) | (with_reducible refine Kd.C_drewN ?_ _) | (with_reducible refine Kd.C_drew ?_) | exact HR294_0.out)) hb));(have n16_ := Aside0.mk (below_step (by repeat (first | (with_reducible first | exact HB.out | apply below_alloc | apply pw_below_drewN | apply below_drew1 | refine below_set ?_ GE260.out) | exact HB.out)) hb));(clear HO_13);(clear HO_15);(clear HO_16);(clear HO_22);(clear HO_24);(clear HO_27);(clear HO_29);(clear HO_261003);(clear HL289_0);(clear HL293_0);(clear HL294_0);(clear BK260);(clear HR289_0);(clear HR293_0);(clear HR294_0);(clear HB);(have HO_13 := n0_);(have HO_15 := n1_);(have HO_16 := n2_);(have HO_22 := n3_);(have HO_24 := n4_);(have HO_27 := n5_);(have HO_29 := n6_);(have HO_261003 := n7_);(have HL289_0 := n8_);(have HL293_0 := n9_);(have HL294_0 := n10_);(have HO297 := n11_);(have BK260 := n12_);(have HR289_0 := n13_);(have HR293_0 := n14_);(have HR294_0 := n15_);(have HB := n16_);(clear n0_ n1_ n2_ n3_ n4_ n5_ n6_ n7_ n8_ n9_ n10_ n11_ n12_ n13_ n14_ n15_ n16_);((try clear hb));((try clear hb2));((try clear hk));((try clear hi));((try clear ho0));(refine hK.out _ _ ⟨(blk_cell BK260.out 0).trans rfl, (blk_cell BK260.out 1).trans rfl, (blk_cell BK260.out 2).trans rfl, (blk_cell BK260.out 3).trans rfl, HS4_, HS5_, HS6_, HS7_⟩ (fun hHeld => ?_));(clear hK K);(refine norm_ (a' := ?_) ?_ ?_)); rotate_left; (·(show Act.put _ (some 182) _ = _); (simp only [Act.put, sA_, sZ_, sS_, i64_w, i32_w]); rfl); (refine pure_ (i := 13) (N := some 169) (v := ?_) (a' := ?_) #[T,T,T,T,T,T,T,T,T,T,T,T,T,T,F,F,F,F] rfl rfl (any_of HT_.out (by kernel_rfl)) (fun _ _ _ h => h) (Or.inl ⟨by rfl, ?_⟩) ?_ ?_); rotate_left; (·intro w'; go_simp; with_reducible rfl); rotate_left; (·(simp only [Act.put, sA_, sZ_, sS_, i64_w, i32_w]); rfl); (refine pure_ (i := 14) (N := some 183) (v := ?_) (a' := ?_) #[T,T,T,T,T,T,T,T,T,T,T,T,T,T,T,F,F,F] rfl rfl (any_of HT_.out (by kernel_rfl)) (fun _ _ _ h => h) (Or.inl ⟨by rfl, ?_⟩) ?_ ?_); rotate_left; (·intro w'; go_simp; with_reducible rfl); rotate_left
                       (·(simp only [Act.put, sA_, sZ_, sS_, i64_w, i32_w]); rfl); (refine pure_ (i := 15) (N := some 184) (v := ?_) (a' := ?_) #[T,T,T,T,T,T,T,T,T,T,T,T,T,T,T,T,F,F] rfl rfl (any_of HT_.out (by kernel_rfl)) (fun _ _ _ h => h) (Or.inl ⟨by rfl, ?_⟩) ?_ ?_); rotate_left; (·intro w'; go_simp; with_reducible rfl); rotate_left; (·(simp only [Act.put, sA_, sZ_, sS_, i64_w, i32_w]); rfl); (refine pure_ (i := 16) (N := some 33) (v := ?_) (a' := ?_) #[T,T,T,T,T,T,T,T,T,T,T,T,T,T,T,T,T,F] rfl rfl (any_of HT_.out (by kernel_rfl)) (fun _ _ _ h => h) (Or.inl ⟨by rfl, ?_⟩) ?_ ?_); rotate_left; (·intro w'; go_simp; with_reducible rfl); rotate_left; (·(simp only [Act.put, sA_, sZ_, sS_, i64_w, i32_w]); rfl); (refine pure_ (i := 17) (N := some 34) (v := ?_) (a' := ?_) #[T,T,T,T,T,T,T,T,T,T,T,T,T,T,T,T,T,T] rfl rfl (any_of HT_.out (by kernel_rfl)) (fun _ _ _ h => h) (Or.inl ⟨by rfl, ?_⟩) ?_ ?_); rotate_left; (·intro w'; go_simp; with_reducible rfl); rotate_left; (·(simp only [Act.put, sA_, sZ_, sS_, i64_w, i32_w]); rfl); ((refine done_ (done_of HT_.out (by kernel_rfl)) ?_);(have p299 : 0 ≤ (x26_3 : Int) := of_decide_eq_true (by first | (with_reducible assumption) | assumption));(have q299 : x26_3 < (t268.length : Int) := of_decide_eq_true (by first | (with_reducible assumption) | assumption));(obtain ⟨ad299, A299_0, c299_0, e299, hx299_0, hx299_1, hl299_0, hi299_0⟩ := at_T61 (Kd.V_reads' HO_16.out).2.2 x26_3 p299 q299);(obtain rfl : ad289 = ad299 := (by injection e299));(obtain ⟨ce299, hce299, hMe299, hcc299⟩ := Kd.V_get HO_16.out z61 x26_3 p299 (by first | exact q299 | exact of_decide_eq_true (by first | (with_reducible assumption) | assumption) | (have e_ := (Kd.V_reads' HO_16.out).1; omega)));(obtain ⟨ua299_0, uc299_0, rfl, ul299_0, ge299_0⟩ := k61_openF hMe299);(have hv299_0 := hcc299 0 _ rfl);(rw [Nat.add_zero] at hv299_0);(replace hv299_0 := Option.some.inj (hv299_0.symm.trans hx299_0));(injection hv299_0 with hva_ hvn_ hvc_);(rw [hva_] at ge299_0);(rw [hvc_] at ul299_0);(have HL299_0 := Aside0.mk (show Kd.V (Kd.int .i64) 3 _ w.heap.size _ _ ((rd_T61 t268 x26_3).f0) from Kd.V_mk ul299_0 ge299_0));(clear hva_ hvn_ hvc_ ge299_0 ul299_0);(clear hcc299 hce299);(have HR299_0 := Aside0.mk hi299_0);(have HC299_0 := Aside0.mk hl299_0);(clear hi299_0 hl299_0);(replace p299 := eq_true p299);(replace q299 := eq_true q299);(obtain ⟨Ao89, co89, eo89⟩ := Kd.R_slice HO_27.out);(subst eo89);(first | (have ea_ := Option.some.inj (hx299_0.symm.trans (by assumption : _ = some (Value.slice A289_0 ((rd_T61 t268 x26_3).f0).length c289_0))); injection ea_ with ea_ en_ ec_; subst ea_; subst ec_; clear en_) | (have ea_ := Option.some.inj (hx299_0.symm.trans (by assumption : _ = some (Value.slice A290_0 ((rd_T61 t268 x26_3).f0).length c290_0))); injection ea_ with ea_ en_ ec_; subst ea_; subst ec_; clear en_) | (have ea_ := Option.some.inj (hx299_0.symm.trans (by assumption : _ = some (Value.slice A293_0 ((rd_T61 t268 x26_3).f0).length c293_0))); injection ea_ with ea_ en_ ec_; subst ea_; subst ec_; clear en_) | (have ea_ := Option.some.inj (hx299_0.symm.trans (by assumption : _ = some (Value.slice A294_0 ((rd_T61 t268 x26_3).f0).length c294_0))); injection ea_ with ea_ en_ ec_; subst ea_; subst ec_; clear en_) | skip))
                       try go_wp2_with (first | (go_at_call 30; (with_reducible refine (racewaylaw8_same.calls k4 _ _ t281 _ _ ((rd_T61 t268 x26_3).f0) true _ ?side1 ?side2 ?side3 ?side4 A81.out).mono ?_); (case side1 => repeat (first | exact (Kd.R_reads' HO_27.out).2.2 | (with_reducible refine Kd.C_alloc ?_ _) | (with_reducible refine Kd.C_drewN ?_ _) | (with_reducible refine Kd.C_drew ?_))); (case side2 => exact (Kd.R_reads' HO_27.out).2.1); (case side3 => repeat (first | exact (by repeat (first | (with_reducible exact HR299_0.out) | (with_reducible refine Kd.C_alloc ?_ _) | (with_reducible refine Kd.C_drewN ?_ _) | (with_reducible refine Kd.C_drew ?_) | exact HR299_0.out)) | (with_reducible refine Kd.C_alloc ?_ _) | (with_reducible refine Kd.C_drewN ?_ _) | (with_reducible refine Kd.C_drew ?_))); (case side4 => exact HC299_0.out); rintro e w' ⟨rfl, ⟨nd, rfl⟩⟩; have p301 : 0 ≤ (x26_3 : Int) := of_decide_eq_true (by first | (with_reducible assumption) | assumption); have q301 : x26_3 < (t268.length : Int) := of_decide_eq_true (by first | (with_reducible assumption) | assumption); obtain ⟨ad301, A301_0, c301_0, e301, hx301_0, hx301_1, hl301_0, hi301_0⟩ := at_T61 (Kd.V_reads' HO_16.out).2.2 x26_3 p301 q301; obtain rfl : ad289 = ad301 := (by injection e301); obtain ⟨ce301, hce301, hMe301, hcc301⟩ := Kd.V_get HO_16.out z61 x26_3 p301 (by first | exact q301 | exact of_decide_eq_true (by first | (with_reducible assumption) | assumption) | (have e_ := (Kd.V_reads' HO_16.out).1; omega)); obtain ⟨ua301_0, uc301_0, rfl, ul301_0, ge301_0⟩ := k61_openF hMe301; have hv301_0 := hcc301 0 _ rfl; rw [Nat.add_zero] at hv301_0; replace hv301_0 := Option.some.inj (hv301_0.symm.trans hx301_0); injection hv301_0 with hva_ hvn_ hvc_; rw [hva_] at ge301_0; rw [hvc_] at ul301_0; have HL301_0 := Aside0.mk (show Kd.V (Kd.int .i64) 3 _ w.heap.size _ _ ((rd_T61 t268 x26_3).f0) from Kd.V_mk ul301_0 ge301_0); clear hva_ hvn_ hvc_ ge301_0 ul301_0; clear hcc301 hce301; have HR301_0 := Aside0.mk hi301_0; have HC301_0 := Aside0.mk hl301_0; clear hi301_0 hl301_0; replace p301 := eq_true p301; replace q301 := eq_true q301; have ea_ := Option.some.inj (hx299_0.symm.trans hx301_0); injection ea_ with ea_ en_ ec_; subst ea_; subst ec_; clear en_))
                       go_roundg k4
                       case measure => have := HJ14.out; have := HJ39.out; have := HK3.out; have := HK4.out; omega
                       case rel => exact ⟨(t295), (wrap64 (x25_3 + x31_4)), (wrap64 (x26_3 + 1)), (by first | rfl | (simp; done) | (simp [*]; done)), (by first | rfl | (simp; done) | (simp [*]; done)), H', ⟨by have := HJ14.out; have := HJ39.out; have := HK3.out; have := HK4.out; omega⟩, ⟨by (with_reducible repeat first | apply Kd.R_alloc | apply Kd.R_drewN | apply Kd.R_drew); exact Kd.R_mono HO_13.out (fun _ hk => hk.1.1)⟩, ⟨by (with_reducible repeat first | apply Kd.R_alloc | apply Kd.R_drewN | apply Kd.R_drew); exact Kd.R_mono HO_15.out (fun _ hk => hk.1.1)⟩, ⟨by (with_reducible repeat (first | apply Kd.V_alloc | apply Kd.V_drewN | apply Kd.V_drew)); exact Kd.V_mono HO_16.out (fun _ hk => ⟨hk.1.1, ⟨hk.1.2.1, ⟨hk.1.2.2.1, ⟨hk.1.2.2.2.2.2.1, hk.1.2.2.2.2.2.2⟩⟩⟩⟩)⟩, ⟨by (with_reducible repeat first | apply Kd.R_alloc | apply Kd.R_drewN | apply Kd.R_drew); exact Kd.R_mono HO_22.out (fun _ hk => trivial)⟩, ⟨Kd.R_V (by (with_reducible repeat first | apply Kd.R_alloc | apply Kd.R_drewN | apply Kd.R_drew); exact Kd.R_mono (Kd.R_types (Kd.R_apart' (Kd.R_apart' HO297.out (Kd.R_typed HO_22.out) (by decide)) (Kd.R_typed HO_261003.out) (by decide)) BK260.out (by decide)) (fun _ hk => ⟨hk.1.1.1.1.2, ⟨hk.1.1.2, ⟨hk.1.2, hk.2⟩⟩⟩))⟩, ⟨by (with_reducible repeat first | apply Kd.R_alloc | apply Kd.R_drewN | apply Kd.R_drew); exact HO_261003.out⟩, ⟨by (with_reducible repeat first | refine blk_drewN ?_ _ | refine blk_drew ?_ | refine blk_alloc ?_ _); exact BK260.out⟩, ⟨by repeat (first | (with_reducible first | exact HB.out | apply below_alloc | apply pw_below_drewN | apply below_drew1 | refine below_set ?_ GE260.out) | exact HB.out)⟩⟩
                     ·(rw [if_neg c86] at H);(have c86b0 : (t298 == 0) = false := beq_eq_false_iff_ne.mpr c86);(have c86b1 : (t298 != 0) = true := bne_iff_ne.mpr c86);(exact absurd ((Option.some.inj H).trans hrT_.out) (by simp))
                   ·(rw [if_neg c84] at H);(have c84b0 : (x31_4 == ((rd_T61 t268 x26_3).f1)) = false := beq_eq_false_iff_ne.mpr c84);(have c84b1 : (x31_4 != ((rd_T61 t268 x26_3).f1)) = true := bne_iff_ne.mpr c84);(exact absurd ((Option.some.inj H).trans hrT_.out) (by simp))
                  ·(rw [if_neg c83] at H);(have c83b0 : ((t281.length : Int) == t272) = false := beq_eq_false_iff_ne.mpr c83);(have c83b1 : ((t281.length : Int) != t272) = true := bne_iff_ne.mpr c83);(exact absurd ((Option.some.inj H).trans hrT_.out) (by simp))
                 ·(replace c82 := Bool.eq_false_iff.mpr c82);(subst c82);(have H1 : (some false) = some r := by rw [if_neg (show ¬ (false = true) by decide)] at H; exact H);(clear H);(have H := H1);(clear H1);(exact absurd ((Option.some.inj H).trans hrT_.out) (by simp))
                ·(replace c80 := Bool.eq_false_iff.mpr c80);(subst c80);(have H1 : (some false) = some r := by rw [if_neg (show ¬ (false = true) by decide)] at H; exact H);(clear H);(have H := H1);(clear H1);(exact absurd ((Option.some.inj H).trans hrT_.out) (by simp))
              ·(rw [if_neg c72] at H);(exact absurd H (by simp))
             ·(rw [if_neg c71] at H);(exact absurd H (by simp))
          ·(rw [if_neg c61] at H);(have c61b0 : decide (x26_3 < (t268.length : Int)) = false := decide_eq_false c61);(clear c61);(replace H := Option.bind_eq_some_iff.mp H);(obtain ⟨⟨t302, t305⟩, A900, H⟩ := H);(replace H : ((flow_Value.f k3 t254 t255 t256 t257 t261).bind fun bt306 => ((flow_Value.f k3 t254 t255 t256 t257 t265).bind fun bt308 => (if t305 = true then (some false) else ((racewayref5_Same.f k3 x24_3 t265).bind fun t310 => (if t310 = true then (some (bt308.1 == (wrap64 (bt306.1 + x25_3)))) else (some false)))))) = some r := H);(have A90 := Aside0.mk A900);(clear A900);(replace H := Option.bind_eq_some_iff.mp H);(obtain ⟨⟨t306, t307⟩, A910, H⟩ := H);(replace H : ((flow_Value.f k3 t254 t255 t256 t257 t265).bind fun bt308 => (if t305 = true then (some false) else ((racewayref5_Same.f k3 x24_3 t265).bind fun t310 => (if t310 = true then (some (bt308.1 == (wrap64 (t306 + x25_3)))) else (some false))))) = some r := H);(have A91 := Aside0.mk A910);(clear A910);(replace H := Option.bind_eq_some_iff.mp H);(obtain ⟨⟨t308, t309⟩, A920, H⟩ := H);(replace H : (if t305 = true then (some false) else ((racewayref5_Same.f k3 x24_3 t265).bind fun t310 => (if t310 = true then (some (t308 == (wrap64 (t306 + x25_3)))) else (some false)))) = some r := H);(have A92 := Aside0.mk A920);(clear A920)
           by_cases c93 : t305 = true
           ·(subst c93);(have H1 : (some false) = some r := by rw [if_pos rfl] at H; exact H);(clear H);(have H := H1);(clear H1);(exact absurd ((Option.some.inj H).trans hrT_.out) (by simp))
           ·(replace c93 := Bool.eq_false_iff.mpr c93);(subst c93);(have H1 : ((racewayref5_Same.f k3 x24_3 t265).bind fun t310 => (if t310 = true then (some (t308 == (wrap64 (t306 + x25_3)))) else (some false))) = some r := by rw [if_neg (show ¬ (false = true) by decide)] at H; exact H);(clear H);(have H := H1);(clear H1);(replace H := Option.bind_eq_some_iff.mp H);(obtain ⟨t310, A940, H⟩ := H);(replace H : (if t310 = true then (some (t308 == (wrap64 (t306 + x25_3)))) else (some false)) = some r := H);(have A94 := Aside0.mk A940);(clear A940)
            by_cases c95 : t310 = true
            ·(subst c95);(have H1 : (some (t308 == (wrap64 (t306 + x25_3)))) = some r := by rw [if_pos rfl] at H; exact H);(clear H);(have H := H1);(clear H1)
             as_aux_lemma =>
              ((obtain rfl := Option.some.inj H);(obtain ⟨Ao96, co96, eo96⟩ := Kd.V_slice HO_16.out);(subst eo96);(have hcz97_0 : wr.cell? ⟨gb260, 0, none⟩ = some (.int .i64 t254) := (blk_cell BK260.out 0).trans rfl);(have hcz97_1 : wr.cell? ⟨gb260, 1, none⟩ = some (.int .i64 t255) := (blk_cell BK260.out 1).trans rfl);(have hcz97_2 : wr.cell? ⟨gb260, 2, none⟩ = some (.int .i64 t256) := (blk_cell BK260.out 2).trans rfl);(have hcz97_3 : wr.cell? ⟨gb260, 3, none⟩ = some (.slice Ao20 t257.length co20) := (blk_cell BK260.out 3).trans rfl);(have hfz97_0 := blk_frozen BK260.out 0);(have hfz97_1 := blk_frozen BK260.out 1);(have hfz97_2 := blk_frozen BK260.out 2);(have hfz97_3 := blk_frozen BK260.out 3);(obtain ⟨Ao98, co98, eo98⟩ := Kd.V_slice HO_24.out);(subst eo98);(obtain ⟨Ao99, co99, eo99⟩ := Kd.R_slice HO_22.out);(subst eo99)); (go_wp2_with (first | ((with_reducible refine gate_callee (f := 35) rfl ?_); refine goesL_ (some 230) rfl rfl Try.func35 (by kernel_rfl) rfl #[.agg #[.int .i64 t254, .int .i64 t255, .int .i64 t256, .slice Ao20 t257.length co20], .slice Ao98 x24_3.length co98, .slice Ao99 t276.length co99, .int .i64 (wrap64 (1 + t264))] rfl (by (try simp only [List.map_toArray, List.map_cons, List.map_nil]); first | done | rfl | (simp only [List.length_drop, List.length_take]; rfl)) ?_; (with_reducible refine (plain_Next.calls k3 t254 t255 t256 _ _ t257 _ _ x24_3 _ _ t276 (wrap64 (1 + t264)) t302 false _ ?side1 ?side2 ?side3 ?side4 ?side5 ?side6 A90.out).mono ?_); (case side1 => repeat (first | exact (Kd.R_reads' HO_261003.out).2.2 | (with_reducible refine Kd.C_alloc ?_ _) | (with_reducible refine Kd.C_drewN ?_ _) | (with_reducible refine Kd.C_drew ?_))); (case side2 => exact (Kd.R_reads' HO_261003.out).2.1); (case side3 => repeat (first | exact (Kd.V_reads' HO_24.out).2.2 | (with_reducible refine Kd.C_alloc ?_ _) | (with_reducible refine Kd.C_drewN ?_ _) | (with_reducible refine Kd.C_drew ?_))); (case side4 => exact (Kd.V_reads' HO_24.out).2.1); (case side5 => repeat (first | exact (Kd.R_reads' HO_22.out).2.2 | (with_reducible refine Kd.C_alloc ?_ _) | (with_reducible refine Kd.C_drewN ?_ _) | (with_reducible refine Kd.C_drew ?_))); (case side6 => exact (Kd.R_reads' HO_22.out).2.1); rintro e w100 ⟨v303, rfl, ho0, hb⟩; refine ⟨_, rfl, ?_⟩; have n0_ := Aside0.mk (Kd.R_below (by (with_reducible repeat first | apply Kd.R_alloc | apply Kd.R_drewN | apply Kd.R_drew); exact HO_13.out) hb); have n1_ := Aside0.mk (Kd.R_below (by (with_reducible repeat first | apply Kd.R_alloc | apply Kd.R_drewN | apply Kd.R_drew); exact HO_15.out) hb); have n2_ := Aside0.mk (Kd.V_elder' (by (with_reducible repeat (first | apply Kd.V_alloc | apply Kd.V_drewN | apply Kd.V_drew)); exact HO_16.out) (Kd.R_base ho0) hb); have n3_ := Aside0.mk (Kd.R_elder' (by (with_reducible repeat first | apply Kd.R_alloc | apply Kd.R_drewN | apply Kd.R_drew); exact HO_22.out) (Kd.R_base ho0) hb); have n4_ := Aside0.mk (Kd.V_elder' (by (with_reducible repeat (first | apply Kd.V_alloc | apply Kd.V_drewN | apply Kd.V_drew)); exact HO_24.out) (Kd.R_base ho0) hb); have n5_ := Aside0.mk (Kd.R_below (by (with_reducible repeat first | apply Kd.R_alloc | apply Kd.R_drewN | apply Kd.R_drew); exact HO_261003.out) hb); have n6_ := Aside0.mk (Kd.R_lower (Kd.R_new' ho0 (Kd.R_lt (by (with_reducible repeat first | apply Kd.R_alloc | apply Kd.R_drewN | apply Kd.R_drew); exact HO_22.out))) (below_size (by repeat (first | (with_reducible first | exact HB.out | apply below_alloc | apply pw_below_drewN | apply below_drew1 | refine below_set ?_ GE260.out) | exact HB.out)))); have n7_ := Aside0.mk (blk_below (g := gb260) (o := .cells #[.int .i64 t254, .int .i64 t255, .int .i64 t256, .slice Ao20 t257.length co20] 26 (0, 0)) (by (with_reducible repeat first | refine blk_drewN ?_ _ | refine blk_drew ?_ | refine blk_alloc ?_ _); exact BK260.out) hb); have n8_ := Aside0.mk (below_step (by repeat (first | (with_reducible first | exact HB.out | apply below_alloc | apply pw_below_drewN | apply below_drew1 | refine below_set ?_ GE260.out) | exact HB.out)) hb); clear HO_13; clear HO_15; clear HO_16; clear HO_22; clear HO_24; clear HO_261003; clear BK260; clear HB; have HO_13 := n0_; have HO_15 := n1_; have HO_16 := n2_; have HO_22 := n3_; have HO_24 := n4_; have HO_261003 := n5_; have HO304 := n6_; have BK260 := n7_; have HB := n8_; clear n0_ n1_ n2_ n3_ n4_ n5_ n6_ n7_ n8_; (try clear hb); (try clear hk); (try clear ho0); have hcz101_0 : w100.cell? ⟨gb260, 0, none⟩ = some (.int .i64 t254) := (blk_cell BK260.out 0).trans rfl; have hcz101_1 : w100.cell? ⟨gb260, 1, none⟩ = some (.int .i64 t255) := (blk_cell BK260.out 1).trans rfl; have hcz101_2 : w100.cell? ⟨gb260, 2, none⟩ = some (.int .i64 t256) := (blk_cell BK260.out 2).trans rfl; have hcz101_3 : w100.cell? ⟨gb260, 3, none⟩ = some (.slice Ao20 t257.length co20) := (blk_cell BK260.out 3).trans rfl; have hfz101_0 := blk_frozen BK260.out 0; have hfz101_1 := blk_frozen BK260.out 1; have hfz101_2 := blk_frozen BK260.out 2; have hfz101_3 := blk_frozen BK260.out 3) | ((with_reducible refine gate_callee (f := 19) rfl ?_); refine goesL_ (some 236) rfl rfl Try.func19 (by kernel_rfl) rfl #[.agg #[.int .i64 t254, .int .i64 t255, .int .i64 t256, .slice Ao20 t257.length co20], .slice Ao23 t261.length co23] rfl (by (try simp only [List.map_toArray, List.map_cons, List.map_nil]); first | done | rfl | (simp only [List.length_drop, List.length_take]; rfl)) ?_; (with_reducible refine (flow_Value.calls k3 t254 t255 t256 _ _ t257 _ _ t261 t306 t307 _ ?side1 ?side2 ?side3 ?side4 A91.out).mono ?_); (case side1 => repeat (first | exact (Kd.R_reads' HO_261003.out).2.2 | (with_reducible refine Kd.C_alloc ?_ _) | (with_reducible refine Kd.C_drewN ?_ _) | (with_reducible refine Kd.C_drew ?_))); (case side2 => exact (Kd.R_reads' HO_261003.out).2.1); (case side3 => repeat (first | exact (Kd.R_reads' HO_13.out).2.2 | (with_reducible refine Kd.C_alloc ?_ _) | (with_reducible refine Kd.C_drewN ?_ _) | (with_reducible refine Kd.C_drew ?_))); (case side4 => exact (Kd.R_reads' HO_13.out).2.1); rintro e w102 ⟨rfl, hb⟩; refine ⟨_, rfl, ?_⟩; have n0_ := Aside0.mk (Kd.R_below (by (with_reducible repeat first | apply Kd.R_alloc | apply Kd.R_drewN | apply Kd.R_drew); exact HO_13.out) hb); have n1_ := Aside0.mk (Kd.R_below (by (with_reducible repeat first | apply Kd.R_alloc | apply Kd.R_drewN | apply Kd.R_drew); exact HO_15.out) hb); have n2_ := Aside0.mk (Kd.V_below (by (with_reducible repeat (first | apply Kd.V_alloc | apply Kd.V_drewN | apply Kd.V_drew)); exact HO_16.out) hb); have n3_ := Aside0.mk (Kd.R_below (by (with_reducible repeat first | apply Kd.R_alloc | apply Kd.R_drewN | apply Kd.R_drew); exact HO_22.out) hb); have n4_ := Aside0.mk (Kd.V_below (by (with_reducible repeat (first | apply Kd.V_alloc | apply Kd.V_drewN | apply Kd.V_drew)); exact HO_24.out) hb); have n5_ := Aside0.mk (Kd.R_below (by (with_reducible repeat first | apply Kd.R_alloc | apply Kd.R_drewN | apply Kd.R_drew); exact HO_261003.out) hb); have n6_ := Aside0.mk (Kd.R_below (by (with_reducible repeat first | apply Kd.R_alloc | apply Kd.R_drewN | apply Kd.R_drew); exact HO304.out) hb); have n7_ := Aside0.mk (blk_below (g := gb260) (o := .cells #[.int .i64 t254, .int .i64 t255, .int .i64 t256, .slice Ao20 t257.length co20] 26 (0, 0)) (by (with_reducible repeat first | refine blk_drewN ?_ _ | refine blk_drew ?_ | refine blk_alloc ?_ _); exact BK260.out) hb); have n8_ := Aside0.mk (below_step (by repeat (first | (with_reducible first | exact HB.out | apply below_alloc | apply pw_below_drewN | apply below_drew1 | refine below_set ?_ GE260.out) | exact HB.out)) hb); clear HO_13; clear HO_15; clear HO_16; clear HO_22; clear HO_24; clear HO_261003; clear HO304; clear BK260; clear HB; have HO_13 := n0_; have HO_15 := n1_; have HO_16 := n2_; have HO_22 := n3_; have HO_24 := n4_; have HO_261003 := n5_; have HO304 := n6_; have BK260 := n7_; have HB := n8_; clear n0_ n1_ n2_ n3_ n4_ n5_ n6_ n7_ n8_; (try clear hb); (try clear hk); have hcz103_0 : w102.cell? ⟨gb260, 0, none⟩ = some (.int .i64 t254) := (blk_cell BK260.out 0).trans rfl; have hcz103_1 : w102.cell? ⟨gb260, 1, none⟩ = some (.int .i64 t255) := (blk_cell BK260.out 1).trans rfl; have hcz103_2 : w102.cell? ⟨gb260, 2, none⟩ = some (.int .i64 t256) := (blk_cell BK260.out 2).trans rfl; have hcz103_3 : w102.cell? ⟨gb260, 3, none⟩ = some (.slice Ao20 t257.length co20) := (blk_cell BK260.out 3).trans rfl; have hfz103_0 := blk_frozen BK260.out 0; have hfz103_1 := blk_frozen BK260.out 1; have hfz103_2 := blk_frozen BK260.out 2; have hfz103_3 := blk_frozen BK260.out 3) | ((with_reducible refine gate_callee (f := 19) rfl ?_); refine goesL_ (some 242) rfl rfl Try.func19 (by kernel_rfl) rfl #[.agg #[.int .i64 t254, .int .i64 t255, .int .i64 t256, .slice Ao20 t257.length co20], .slice Ao28 t265.length co28] rfl (by (try simp only [List.map_toArray, List.map_cons, List.map_nil]); first | done | rfl | (simp only [List.length_drop, List.length_take]; rfl)) ?_; (with_reducible refine (flow_Value.calls k3 t254 t255 t256 _ _ t257 _ _ t265 t308 t309 _ ?side1 ?side2 ?side3 ?side4 A92.out).mono ?_); (case side1 => repeat (first | exact (Kd.R_reads' HO_261003.out).2.2 | (with_reducible refine Kd.C_alloc ?_ _) | (with_reducible refine Kd.C_drewN ?_ _) | (with_reducible refine Kd.C_drew ?_))); (case side2 => exact (Kd.R_reads' HO_261003.out).2.1); (case side3 => repeat (first | exact (Kd.R_reads' HO_15.out).2.2 | (with_reducible refine Kd.C_alloc ?_ _) | (with_reducible refine Kd.C_drewN ?_ _) | (with_reducible refine Kd.C_drew ?_))); (case side4 => exact (Kd.R_reads' HO_15.out).2.1); rintro e w104 ⟨rfl, hb⟩; refine ⟨_, rfl, ?_⟩; have n0_ := Aside0.mk (Kd.R_below (by (with_reducible repeat first | apply Kd.R_alloc | apply Kd.R_drewN | apply Kd.R_drew); exact HO_13.out) hb); have n1_ := Aside0.mk (Kd.R_below (by (with_reducible repeat first | apply Kd.R_alloc | apply Kd.R_drewN | apply Kd.R_drew); exact HO_15.out) hb); have n2_ := Aside0.mk (Kd.V_below (by (with_reducible repeat (first | apply Kd.V_alloc | apply Kd.V_drewN | apply Kd.V_drew)); exact HO_16.out) hb); have n3_ := Aside0.mk (Kd.R_below (by (with_reducible repeat first | apply Kd.R_alloc | apply Kd.R_drewN | apply Kd.R_drew); exact HO_22.out) hb); have n4_ := Aside0.mk (Kd.V_below (by (with_reducible repeat (first | apply Kd.V_alloc | apply Kd.V_drewN | apply Kd.V_drew)); exact HO_24.out) hb); have n5_ := Aside0.mk (Kd.R_below (by (with_reducible repeat first | apply Kd.R_alloc | apply Kd.R_drewN | apply Kd.R_drew); exact HO_261003.out) hb); have n6_ := Aside0.mk (Kd.R_below (by (with_reducible repeat first | apply Kd.R_alloc | apply Kd.R_drewN | apply Kd.R_drew); exact HO304.out) hb); have n7_ := Aside0.mk (blk_below (g := gb260) (o := .cells #[.int .i64 t254, .int .i64 t255, .int .i64 t256, .slice Ao20 t257.length co20] 26 (0, 0)) (by (with_reducible repeat first | refine blk_drewN ?_ _ | refine blk_drew ?_ | refine blk_alloc ?_ _); exact BK260.out) hb); have n8_ := Aside0.mk (below_step (by repeat (first | (with_reducible first | exact HB.out | apply below_alloc | apply pw_below_drewN | apply below_drew1 | refine below_set ?_ GE260.out) | exact HB.out)) hb); clear HO_13; clear HO_15; clear HO_16; clear HO_22; clear HO_24; clear HO_261003; clear HO304; clear BK260; clear HB; have HO_13 := n0_; have HO_15 := n1_; have HO_16 := n2_; have HO_22 := n3_; have HO_24 := n4_; have HO_261003 := n5_; have HO304 := n6_; have BK260 := n7_; have HB := n8_; clear n0_ n1_ n2_ n3_ n4_ n5_ n6_ n7_ n8_; (try clear hb); (try clear hk)) | (go_at_call 21; (with_reducible refine (racewayref5_Same.calls k3 _ _ x24_3 _ _ t265 true _ ?side1 ?side2 ?side3 ?side4 A94.out).mono ?_); (case side1 => repeat (first | exact (Kd.V_reads' HO_24.out).2.2 | (with_reducible refine Kd.C_alloc ?_ _) | (with_reducible refine Kd.C_drewN ?_ _) | (with_reducible refine Kd.C_drew ?_))); (case side2 => exact (Kd.V_reads' HO_24.out).2.1); (case side3 => repeat (first | exact (Kd.R_reads' HO_15.out).2.2 | (with_reducible refine Kd.C_alloc ?_ _) | (with_reducible refine Kd.C_drewN ?_ _) | (with_reducible refine Kd.C_drew ?_))); (case side4 => exact (Kd.R_reads' HO_15.out).2.1); rintro e w' ⟨rfl, ⟨nd, rfl⟩⟩)))
              (go_ret); (exact ⟨by first | rfl | (simp [errW_none, errW_some] <;> rfl) | (simp [*, errW_none, errW_some] <;> rfl), by repeat (first | (with_reducible first | exact HB.out | apply below_alloc | apply pw_below_drewN | apply below_drew1 | refine below_set ?_ GE260.out) | exact HB.out)⟩)
            ·(replace c95 := Bool.eq_false_iff.mpr c95);(subst c95);(have H1 : (some false) = some r := by rw [if_neg (show ¬ (false = true) by decide)] at H; exact H);(clear H);(have H := H1);(clear H1);(exact absurd ((Option.some.inj H).trans hrT_.out) (by simp))
 (·(replace c7 := Bool.eq_false_iff.mpr c7); subst c7; (have H1 : (some false) = some r := by rw [if_neg (show ¬ (false = true) by decide)] at H; exact H); clear H; (have H := H1); clear H1; (exact absurd ((Option.some.inj H).trans hrT_.out) (by simp)))
/-- THE ONE PURE STATEMENT of racewaylaw8_PlainBlocks. -/
def racewaylaw8_PlainBlocks.Pure : Prop := ∀ (a0 : Int) (a1 : Int) (l2 : List (S91)) (l3 : List Int) (a4 : Int), (Lit.int .i64 a0).wf = true → (Lit.int .i64 a1).wf = true → l2.length ≤ maxLen → (∀ x ∈ l2, (Lit.int .i64 x.f0).wf = true ∧ (Lit.int .i64 x.f1).wf = true ∧ (Lit.int .i64 x.f2).wf = true) → l3.length ≤ maxLen → l3.length * 8 ≤ 140737488351232 → (∀ x ∈ l3, (Lit.int .i64 x).wf = true) → (Lit.int .i64 a4).wf = true → ∃ k, racewaylaw8_PlainBlocks.f k a0 a1 l2 l3 a4 = some true
theorem racewaylaw8_PlainBlocks.walk (P : racewaylaw8_PlainBlocks.Pure) (a0 : Int) (a1 : Int) (A2 : Option Addr) (c2 : Nat) (l2 : List (S91)) (A3 : Option Addr) (c3 : Nat) (l3 : List Int) (a4 : Int) (w : World) (w0 : (Lit.int .i64 a0).wf = true) (w1 : (Lit.int .i64 a1).wf = true) (hr2 : Kd.C k91 w A2 l2.length l2) (hc2 : l2.length ≤ c2) (hm2 : l2.length ≤ maxLen) (hw2 : (∀ x ∈ l2, (Lit.int .i64 x.f0).wf = true ∧ (Lit.int .i64 x.f1).wf = true ∧ (Lit.int .i64 x.f2).wf = true)) (hr3 : Kd.C (Kd.int .i64) w A3 l3.length l3) (hc3 : l3.length ≤ c3) (hm3 : l3.length ≤ maxLen) (y3 : l3.length * 8 ≤ 140737488351232) (hw3 : (∀ x ∈ l3, (Lit.int .i64 x).wf = true)) (w4 : (Lit.int .i64 a4).wf = true) :
  Calls Try.prog 12 #[.int .i64 a0, .int .i64 a1, .slice A2 l2.length c2, .slice A3 l3.length c3, .int .i64 a4] w fun e w' => e = .returned (.bool true) ∧ Below w.heap.size w w' := by
 (obtain ⟨k, h⟩ := P a0 a1 l2 l3 a4 w0 w1 hm2 hw2 hm3 y3 hw3 w4); (refine (racewaylaw8_PlainBlocks.calls k a0 a1 _ _ l2 _ _ l3 a4 true w hr2 hc2 hr3 hc3 h ⟨rfl⟩).mono ?_); (rintro e w' ⟨rfl, hd⟩); (exact ⟨rfl, hd⟩)
end Go.Proofs.Ytdiaedecnfbgdaa.PPlainBlocks
