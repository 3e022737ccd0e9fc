/- For the law DecompBack, for every input: printed by a program (wip/myprint), contracts by hand where it says MANUAL. -/
-- slim5
-- slim
import Derived.Test.YtnjdjnoncoeffaaPDecompBackx0
import Derived.Test.YtnjdjnoncoeffaaPDecompBackx6
import Derived.Test.YtnjdjnoncoeffaaPDecompBackx18
import Derived.Test.YtnjdjnoncoeffaaPDecompBackx19
import Derived.Test.YtnjdjnoncoeffaaPDecompBackx21
import Derived.Test.YtnjdjnoncoeffaaPDecompBackx22
import Derived.Test.YtnjdjnoncoeffaaPDecompBackx24
import Derived.Test.YtnjdjnoncoeffaaPDecompBackx26
import Derived.Test.YtnjdjnoncoeffaaPDecompBackx27
namespace Go.Proofs.Ytnjdjnoncoeffaa.PDecompBack
open Go.RowKit Go.Proofs.YtnjdjnoncoeffaaW.PrintWords Go.Proofs.YtnjdjnoncoeffaaW.PrintLast Go.Proofs.YtnjdjnoncoeffaaW.PrintMore
attribute [local go_sem] max2_int min2_int max_two min_two max_three min_three max_four min_four
set_option linter.unusedVariables false
set_option linter.unusedSimpArgs false
/-! ### racewaylaw15_DecompBack: function 5 -/
mutual
def racewaylaw15_DecompBack.j0 : Nat → List Int → Int → List (S36) → Bool → Int → Int → Int → List (S30) → Option (Bool)
 | 0, _, _, _, _, _, _, _, _ => none
 | k + 1, x13, x14, x16, x74, x247000, x247001, x247002, x247003 => if x74 = true then (some false) else (racewaylaw15_DecompBack.l0 k x13 x14 x16 0 0 x247000 x247001 x247002 x247003)
def racewaylaw15_DecompBack.l0 : Nat → List Int → Int → List (S36) → Int → Int → Int → Int → Int → List (S30) → Option (Bool)
 | 0, _, _, _, _, _, _, _, _, _ => none
 | k + 1, x13, x14, x16, x20, x21, x247000, x247001, x247002, x247003 => if x21 < (x13.length : Int) then (if 0 ≤ x21 then (if (rd x13 x21) > 0 then (racewaylaw15_DecompBack.l0 k x13 x14 x16 (wrap64 (x20 + 1)) (wrap64 (x21 + 1)) x247000 x247001 x247002 x247003) else (racewaylaw15_DecompBack.l0 k x13 x14 x16 x20 (wrap64 (x21 + 1)) x247000 x247001 x247002 x247003)) else (none)) else (racewaylaw15_DecompBack.l1 k x13 x14 x16 x20 0 0 x247000 x247001 x247002 x247003)
def racewaylaw15_DecompBack.l1 : Nat → List Int → Int → List (S36) → Int → Int → Int → Int → Int → Int → List (S30) → Option (Bool)
 | 0, _, _, _, _, _, _, _, _, _, _ => none
 | k + 1, x13, x14, x16, x20, x22, x23, x247000, x247001, x247002, x247003 => if x23 < (x16.length : Int) then (if 0 ≤ x23 then (if ((rd_T36 x16 x23).f0) = 98 then (racewaylaw15_DecompBack.j3 k x13 x14 x16 x20 x22 x23 true x247000 x247001 x247002 x247003) else (racewaylaw15_DecompBack.j3 k x13 x14 x16 x20 x22 x23 (decide (((rd_T36 x16 x23).f2) < 1)) x247000 x247001 x247002 x247003)) else (none)) else ((decomp_Split.f k x247000 x247002 x247001 x247003 x13).bind fun bt270 => (racewaylaw15_DecompBack.l2 k x14 x16 x20 x22 bt270.1 bt270.2 0))
def racewaylaw15_DecompBack.j3 : Nat → List Int → Int → List (S36) → Int → Int → Int → Bool → Int → Int → Int → List (S30) → Option (Bool)
 | 0, _, _, _, _, _, _, _, _, _, _, _ => none
 | k + 1, x13, x14, x16, x20, x22, x23, x107, x247000, x247001, x247002, x247003 => if x107 = true then (some false) else (if 0 ≤ x23 then (if x23 < (x16.length : Int) then (if ((rd_T36 x16 x23).f0) = 112 then (racewaylaw15_DecompBack.l1 k x13 x14 x16 x20 (wrap64 (x22 + ((rd_T36 x16 x23).f2))) (wrap64 (x23 + 1)) x247000 x247001 x247002 x247003) else (racewaylaw15_DecompBack.l1 k x13 x14 x16 x20 x22 (wrap64 (x23 + 1)) x247000 x247001 x247002 x247003)) else (none)) else (none))
def racewaylaw15_DecompBack.l2 : Nat → Int → List (S36) → Int → Int → List (S36) → Int → Int → Option (Bool)
 | 0, _, _, _, _, _, _, _ => none
 | k + 1, x14, x16, x20, x22, x25, x26, x27 => if x27 < (x25.length : Int) then (if 0 ≤ x27 then (if ((rd_T36 x25 x27).f0) = 112 then (some false) else (racewaylaw15_DecompBack.l2 k x14 x16 x20 x22 x25 x26 (wrap64 (x27 + 1)))) else (none)) else (if x22 = x14 then (if (x16.length : Int) ≤ x20 then (if x26 = 0 then (some ((x25.length : Int) == (x16.length : Int))) else (some false)) else (some false)) else (some false))
end
def racewaylaw15_DecompBack.f (k : Nat) (a0 : Int) (a1 : Int) (l2 : List (S61)) (l3 : List Int) (l4 : List Int) : Option (Bool) := (racewaylaw15_shown.f k).bind fun t239 => (if t239 = true then ((racewaylaw15_made.f k a0 a1 l2).bind fun bt240 => ((racewaylaw15_routed.f k bt240.1 bt240.2.1 bt240.2.2.1 bt240.2.2.2 l3).bind fun t247 => ((racewaylaw15_circled.f k bt240.1 bt240.2.1 bt240.2.2.1 bt240.2.2.2 t247 l4).bind fun t250 => ((flow_Value.f k bt240.1 bt240.2.1 bt240.2.2.1 bt240.2.2.2 t250).bind fun bt253 => ((decomp_Split.f k bt240.1 bt240.2.1 bt240.2.2.1 bt240.2.2.2 t250).bind fun bt255 => ((decomp_Sum.f k bt240.1 bt240.2.1 bt240.2.2.1 bt240.2.2.2 bt255.1).bind fun bt259 => (if bt253.2 = 0 then (if bt255.2 = 0 then (if bt259.2 = 0 then ((racewayref5_Same.f k bt259.1 t250).bind fun t263 => (racewaylaw15_DecompBack.j0 k t250 bt253.1 bt255.1 (!t263) bt240.1 bt240.2.1 bt240.2.2.1 bt240.2.2.2)) else (racewaylaw15_DecompBack.j0 k t250 bt253.1 bt255.1 true bt240.1 bt240.2.1 bt240.2.2.1 bt240.2.2.2)) else (racewaylaw15_DecompBack.j0 k t250 bt253.1 bt255.1 true bt240.1 bt240.2.1 bt240.2.2.1 bt240.2.2.2)) else (racewaylaw15_DecompBack.j0 k t250 bt253.1 bt255.1 true bt240.1 bt240.2.1 bt240.2.2.1 bt240.2.2.2)))))))) else (some false))
theorem racewaylaw15_DecompBack.mono_l : ∀ k, (∀ y0 y1 y2 y3 y4 y5 y6 y7, LeO (racewaylaw15_DecompBack.j0 k y0 y1 y2 y3 y4 y5 y6 y7) (racewaylaw15_DecompBack.j0 (k + 1) y0 y1 y2 y3 y4 y5 y6 y7)) ∧ (∀ y0 y1 y2 y3 y4 y5 y6 y7 y8, LeO (racewaylaw15_DecompBack.l0 k y0 y1 y2 y3 y4 y5 y6 y7 y8) (racewaylaw15_DecompBack.l0 (k + 1) y0 y1 y2 y3 y4 y5 y6 y7 y8)) ∧ (∀ y0 y1 y2 y3 y4 y5 y6 y7 y8 y9, LeO (racewaylaw15_DecompBack.l1 k y0 y1 y2 y3 y4 y5 y6 y7 y8 y9) (racewaylaw15_DecompBack.l1 (k + 1) y0 y1 y2 y3 y4 y5 y6 y7 y8 y9)) ∧ (∀ y0 y1 y2 y3 y4 y5 y6 y7 y8 y9 y10, LeO (racewaylaw15_DecompBack.j3 k y0 y1 y2 y3 y4 y5 y6 y7 y8 y9 y10) (racewaylaw15_DecompBack.j3 (k + 1) y0 y1 y2 y3 y4 y5 y6 y7 y8 y9 y10)) ∧ (∀ y0 y1 y2 y3 y4 y5 y6, LeO (racewaylaw15_DecompBack.l2 k y0 y1 y2 y3 y4 y5 y6) (racewaylaw15_DecompBack.l2 (k + 1) y0 y1 y2 y3 y4 y5 y6))
 | 0 => ⟨fun _ _ _ _ _ _ _ _ r h => by simp [racewaylaw15_DecompBack.j0] at h, fun _ _ _ _ _ _ _ _ _ r h => by simp [racewaylaw15_DecompBack.l0] at h, fun _ _ _ _ _ _ _ _ _ _ r h => by simp [racewaylaw15_DecompBack.l1] at h, fun _ _ _ _ _ _ _ _ _ _ _ r h => by simp [racewaylaw15_DecompBack.j3] at h, fun _ _ _ _ _ _ _ r h => by simp [racewaylaw15_DecompBack.l2] at h⟩
 | k + 1 => by
  (obtain ⟨ih0, ih1, ih2, ih3, ih4⟩ := racewaylaw15_DecompBack.mono_l k); (refine ⟨?_, ?_, ?_, ?_, ?_⟩)
  ·intro y0 y1 y2 y3 y4 y5 y6 y7
   unfold racewaylaw15_DecompBack.j0
   repeat' first
   | (with_reducible exact ih0 _ _ _ _ _ _ _ _)
   | (with_reducible exact ih1 _ _ _ _ _ _ _ _ _)
   | (with_reducible exact ih2 _ _ _ _ _ _ _ _ _ _)
   | (with_reducible exact ih3 _ _ _ _ _ _ _ _ _ _ _)
   | (with_reducible exact ih4 _ _ _ _ _ _ _)
   | (with_reducible exact decomp_Split.mono _ _ _ _ _ _)
   | (with_reducible exact decomp_Sum.mono _ _ _ _ _ _)
   | (with_reducible exact flow_Value.mono _ _ _ _ _ _)
   | (with_reducible exact racewaylaw15_circled.mono _ _ _ _ _ _ _)
   | (with_reducible exact racewaylaw15_made.mono _ _ _ _)
   | (with_reducible exact racewaylaw15_routed.mono _ _ _ _ _ _)
   | (with_reducible exact racewaylaw15_shown.mono _)
   | (with_reducible exact racewayref5_Same.mono _ _ _)
   | (with_reducible exact LeO.refl _)
   | (with_reducible exact LeO.none _)
   | (with_reducible refine LeO.ite ?_ ?_)
   | (with_reducible refine LeO.bind ?_ (fun _ => ?_))
   | exact ih0 _ _ _ _ _ _ _ _
   | exact ih1 _ _ _ _ _ _ _ _ _
   | exact ih2 _ _ _ _ _ _ _ _ _ _
   | exact ih3 _ _ _ _ _ _ _ _ _ _ _
   | exact ih4 _ _ _ _ _ _ _
   | exact decomp_Split.mono _ _ _ _ _ _
   | exact decomp_Sum.mono _ _ _ _ _ _
   | exact flow_Value.mono _ _ _ _ _ _
   | exact racewaylaw15_circled.mono _ _ _ _ _ _ _
   | exact racewaylaw15_made.mono _ _ _ _
   | exact racewaylaw15_routed.mono _ _ _ _ _ _
   | exact racewaylaw15_shown.mono _
   | exact racewayref5_Same.mono _ _ _
   | exact LeO.none _
   | refine LeO.ite ?_ ?_
   | refine LeO.bind ?_ (fun _ => ?_)
  ·intro y0 y1 y2 y3 y4 y5 y6 y7 y8
   unfold racewaylaw15_DecompBack.l0
   repeat' first
   | (with_reducible exact ih0 _ _ _ _ _ _ _ _)
   | (with_reducible exact ih1 _ _ _ _ _ _ _ _ _)
   | (with_reducible exact ih2 _ _ _ _ _ _ _ _ _ _)
   | (with_reducible exact ih3 _ _ _ _ _ _ _ _ _ _ _)
   | (with_reducible exact ih4 _ _ _ _ _ _ _)
   | (with_reducible exact decomp_Split.mono _ _ _ _ _ _)
   | (with_reducible exact decomp_Sum.mono _ _ _ _ _ _)
   | (with_reducible exact flow_Value.mono _ _ _ _ _ _)
   | (with_reducible exact racewaylaw15_circled.mono _ _ _ _ _ _ _)
   | (with_reducible exact racewaylaw15_made.mono _ _ _ _)
   | (with_reducible exact racewaylaw15_routed.mono _ _ _ _ _ _)
   | (with_reducible exact racewaylaw15_shown.mono _)
   | (with_reducible exact racewayref5_Same.mono _ _ _)
   | (with_reducible exact LeO.refl _)
   | (with_reducible exact LeO.none _)
   | (with_reducible refine LeO.ite ?_ ?_)
   | (with_reducible refine LeO.bind ?_ (fun _ => ?_))
   | exact ih0 _ _ _ _ _ _ _ _
   | exact ih1 _ _ _ _ _ _ _ _ _
   | exact ih2 _ _ _ _ _ _ _ _ _ _
   | exact ih3 _ _ _ _ _ _ _ _ _ _ _
   | exact ih4 _ _ _ _ _ _ _
   | exact decomp_Split.mono _ _ _ _ _ _
   | exact decomp_Sum.mono _ _ _ _ _ _
   | exact flow_Value.mono _ _ _ _ _ _
   | exact racewaylaw15_circled.mono _ _ _ _ _ _ _
   | exact racewaylaw15_made.mono _ _ _ _
   | exact racewaylaw15_routed.mono _ _ _ _ _ _
   | exact racewaylaw15_shown.mono _
   | exact racewayref5_Same.mono _ _ _
   | exact LeO.none _
   | refine LeO.ite ?_ ?_
   | refine LeO.bind ?_ (fun _ => ?_)
  ·intro y0 y1 y2 y3 y4 y5 y6 y7 y8 y9
   unfold racewaylaw15_DecompBack.l1
   repeat' first
   | (with_reducible exact ih0 _ _ _ _ _ _ _ _)
   | (with_reducible exact ih1 _ _ _ _ _ _ _ _ _)
   | (with_reducible exact ih2 _ _ _ _ _ _ _ _ _ _)
   | (with_reducible exact ih3 _ _ _ _ _ _ _ _ _ _ _)
   | (with_reducible exact ih4 _ _ _ _ _ _ _)
   | (with_reducible exact decomp_Split.mono _ _ _ _ _ _)
   | (with_reducible exact decomp_Sum.mono _ _ _ _ _ _)
   | (with_reducible exact flow_Value.mono _ _ _ _ _ _)
   | (with_reducible exact racewaylaw15_circled.mono _ _ _ _ _ _ _)
   | (with_reducible exact racewaylaw15_made.mono _ _ _ _)
   | (with_reducible exact racewaylaw15_routed.mono _ _ _ _ _ _)
   | (with_reducible exact racewaylaw15_shown.mono _)
   | (with_reducible exact racewayref5_Same.mono _ _ _)
   | (with_reducible exact LeO.refl _)
   | (with_reducible exact LeO.none _)
   | (with_reducible refine LeO.ite ?_ ?_)
   | (with_reducible refine LeO.bind ?_ (fun _ => ?_))
   | exact ih0 _ _ _ _ _ _ _ _
   | exact ih1 _ _ _ _ _ _ _ _ _
   | exact ih2 _ _ _ _ _ _ _ _ _ _
   | exact ih3 _ _ _ _ _ _ _ _ _ _ _
   | exact ih4 _ _ _ _ _ _ _
   | exact decomp_Split.mono _ _ _ _ _ _
   | exact decomp_Sum.mono _ _ _ _ _ _
   | exact flow_Value.mono _ _ _ _ _ _
   | exact racewaylaw15_circled.mono _ _ _ _ _ _ _
   | exact racewaylaw15_made.mono _ _ _ _
   | exact racewaylaw15_routed.mono _ _ _ _ _ _
   | exact racewaylaw15_shown.mono _
   | exact racewayref5_Same.mono _ _ _
   | exact LeO.none _
   | refine LeO.ite ?_ ?_
   | refine LeO.bind ?_ (fun _ => ?_)
  ·intro y0 y1 y2 y3 y4 y5 y6 y7 y8 y9 y10
   unfold racewaylaw15_DecompBack.j3
   repeat' first
   | (with_reducible exact ih0 _ _ _ _ _ _ _ _)
   | (with_reducible exact ih1 _ _ _ _ _ _ _ _ _)
   | (with_reducible exact ih2 _ _ _ _ _ _ _ _ _ _)
   | (with_reducible exact ih3 _ _ _ _ _ _ _ _ _ _ _)
   | (with_reducible exact ih4 _ _ _ _ _ _ _)
   | (with_reducible exact decomp_Split.mono _ _ _ _ _ _)
   | (with_reducible exact decomp_Sum.mono _ _ _ _ _ _)
   | (with_reducible exact flow_Value.mono _ _ _ _ _ _)
   | (with_reducible exact racewaylaw15_circled.mono _ _ _ _ _ _ _)
   | (with_reducible exact racewaylaw15_made.mono _ _ _ _)
   | (with_reducible exact racewaylaw15_routed.mono _ _ _ _ _ _)
   | (with_reducible exact racewaylaw15_shown.mono _)
   | (with_reducible exact racewayref5_Same.mono _ _ _)
   | (with_reducible exact LeO.refl _)
   | (with_reducible exact LeO.none _)
   | (with_reducible refine LeO.ite ?_ ?_)
   | (with_reducible refine LeO.bind ?_ (fun _ => ?_))
   | exact ih0 _ _ _ _ _ _ _ _
   | exact ih1 _ _ _ _ _ _ _ _ _
   | exact ih2 _ _ _ _ _ _ _ _ _ _
   | exact ih3 _ _ _ _ _ _ _ _ _ _ _
   | exact ih4 _ _ _ _ _ _ _
   | exact decomp_Split.mono _ _ _ _ _ _
   | exact decomp_Sum.mono _ _ _ _ _ _
   | exact flow_Value.mono _ _ _ _ _ _
   | exact racewaylaw15_circled.mono _ _ _ _ _ _ _
   | exact racewaylaw15_made.mono _ _ _ _
   | exact racewaylaw15_routed.mono _ _ _ _ _ _
   | exact racewaylaw15_shown.mono _
   | exact racewayref5_Same.mono _ _ _
   | exact LeO.none _
   | refine LeO.ite ?_ ?_
   | refine LeO.bind ?_ (fun _ => ?_)
  ·intro y0 y1 y2 y3 y4 y5 y6
   unfold racewaylaw15_DecompBack.l2
   repeat' first
   | (with_reducible exact ih0 _ _ _ _ _ _ _ _)
   | (with_reducible exact ih1 _ _ _ _ _ _ _ _ _)
   | (with_reducible exact ih2 _ _ _ _ _ _ _ _ _ _)
   | (with_reducible exact ih3 _ _ _ _ _ _ _ _ _ _ _)
   | (with_reducible exact ih4 _ _ _ _ _ _ _)
   | (with_reducible exact decomp_Split.mono _ _ _ _ _ _)
   | (with_reducible exact decomp_Sum.mono _ _ _ _ _ _)
   | (with_reducible exact flow_Value.mono _ _ _ _ _ _)
   | (with_reducible exact racewaylaw15_circled.mono _ _ _ _ _ _ _)
   | (with_reducible exact racewaylaw15_made.mono _ _ _ _)
   | (with_reducible exact racewaylaw15_routed.mono _ _ _ _ _ _)
   | (with_reducible exact racewaylaw15_shown.mono _)
   | (with_reducible exact racewayref5_Same.mono _ _ _)
   | (with_reducible exact LeO.refl _)
   | (with_reducible exact LeO.none _)
   | (with_reducible refine LeO.ite ?_ ?_)
   | (with_reducible refine LeO.bind ?_ (fun _ => ?_))
   | exact ih0 _ _ _ _ _ _ _ _
   | exact ih1 _ _ _ _ _ _ _ _ _
   | exact ih2 _ _ _ _ _ _ _ _ _ _
   | exact ih3 _ _ _ _ _ _ _ _ _ _ _
   | exact ih4 _ _ _ _ _ _ _
   | exact decomp_Split.mono _ _ _ _ _ _
   | exact decomp_Sum.mono _ _ _ _ _ _
   | exact flow_Value.mono _ _ _ _ _ _
   | exact racewaylaw15_circled.mono _ _ _ _ _ _ _
   | exact racewaylaw15_made.mono _ _ _ _
   | exact racewaylaw15_routed.mono _ _ _ _ _ _
   | exact racewaylaw15_shown.mono _
   | exact racewayref5_Same.mono _ _ _
   | exact LeO.none _
   | refine LeO.ite ?_ ?_
   | refine LeO.bind ?_ (fun _ => ?_)
theorem racewaylaw15_DecompBack.mono : ∀ a0 a1 a2 a3 a4 k, LeO (racewaylaw15_DecompBack.f k a0 a1 a2 a3 a4) (racewaylaw15_DecompBack.f (k + 1) a0 a1 a2 a3 a4) := by
 intro a0 a1 a2 a3 a4 k; (obtain ⟨ih0, ih1, ih2, ih3, ih4⟩ := racewaylaw15_DecompBack.mono_l k); (unfold racewaylaw15_DecompBack.f)
 repeat' first
   | (with_reducible exact ih0 _ _ _ _ _ _ _ _)
   | (with_reducible exact ih1 _ _ _ _ _ _ _ _ _)
   | (with_reducible exact ih2 _ _ _ _ _ _ _ _ _ _)
   | (with_reducible exact ih3 _ _ _ _ _ _ _ _ _ _ _)
   | (with_reducible exact ih4 _ _ _ _ _ _ _)
   | (with_reducible exact decomp_Split.mono _ _ _ _ _ _)
   | (with_reducible exact decomp_Sum.mono _ _ _ _ _ _)
   | (with_reducible exact flow_Value.mono _ _ _ _ _ _)
   | (with_reducible exact racewaylaw15_circled.mono _ _ _ _ _ _ _)
   | (with_reducible exact racewaylaw15_made.mono _ _ _ _)
   | (with_reducible exact racewaylaw15_routed.mono _ _ _ _ _ _)
   | (with_reducible exact racewaylaw15_shown.mono _)
   | (with_reducible exact racewayref5_Same.mono _ _ _)
   | (with_reducible exact LeO.refl _)
   | (with_reducible exact LeO.none _)
   | (with_reducible refine LeO.ite ?_ ?_)
   | (with_reducible refine LeO.bind ?_ (fun _ => ?_))
   | exact ih0 _ _ _ _ _ _ _ _
   | exact ih1 _ _ _ _ _ _ _ _ _
   | exact ih2 _ _ _ _ _ _ _ _ _ _
   | exact ih3 _ _ _ _ _ _ _ _ _ _ _
   | exact ih4 _ _ _ _ _ _ _
   | exact decomp_Split.mono _ _ _ _ _ _
   | exact decomp_Sum.mono _ _ _ _ _ _
   | exact flow_Value.mono _ _ _ _ _ _
   | exact racewaylaw15_circled.mono _ _ _ _ _ _ _
   | exact racewaylaw15_made.mono _ _ _ _
   | exact racewaylaw15_routed.mono _ _ _ _ _ _
   | exact racewaylaw15_shown.mono _
   | exact racewayref5_Same.mono _ _ _
   | exact LeO.none _
   | refine LeO.ite ?_ ?_
   | refine LeO.bind ?_ (fun _ => ?_)
set_option maxHeartbeats 8000000 in
set_option maxRecDepth 100000 in
theorem racewaylaw15_DecompBack.calls (k : Nat) (a0 : Int) (a1 : Int) (A2 : Option Addr) (c2 : Nat) (l2 : List (S61)) (A3 : Option Addr) (c3 : Nat) (l3 : List Int) (A4 : Option Addr) (c4 : Nat) (l4 : List Int) (r : Bool) (w : World) (hr2 : Kd.C k61 w A2 l2.length l2) (hc2 : l2.length ≤ c2) (hr3 : Kd.C (Kd.int .i64) w A3 l3.length l3) (hc3 : l3.length ≤ c3) (hr4 : Kd.C (Kd.int .i64) w A4 l4.length l4) (hc4 : l4.length ≤ c4) (h : racewaylaw15_DecompBack.f k a0 a1 l2 l3 l4 = some r) (hrT_ : Aside0 (r = true)) :
  Calls Try.prog 5 #[.int .i64 a0, .int .i64 a1, .slice A2 l2.length c2, .slice A3 l3.length c3, .slice A4 l4.length c4] w fun e w' => e = .returned (.bool r) ∧ Below w.heap.size w w' := by
 (have hu26 := Try.underlying26); (have HR2 := Aside0.mk hr2); (have HC2 := Aside0.mk hc2); clear hr2 hc2; (have HR3 := Aside0.mk hr3); (have HC3 := Aside0.mk hc3); clear hr3 hc3; (have HR4 := Aside0.mk hr4); (have HC4 := Aside0.mk hc4); clear hr4 hc4; (have HB := Aside0.mk (Below.refl w.heap.size w)); (have H : ((racewaylaw15_shown.f k).bind fun t239 => (if t239 = true then ((racewaylaw15_made.f k a0 a1 l2).bind fun bt240 => ((racewaylaw15_routed.f k bt240.1 bt240.2.1 bt240.2.2.1 bt240.2.2.2 l3).bind fun t247 => ((racewaylaw15_circled.f k bt240.1 bt240.2.1 bt240.2.2.1 bt240.2.2.2 t247 l4).bind fun t250 => ((flow_Value.f k bt240.1 bt240.2.1 bt240.2.2.1 bt240.2.2.2 t250).bind fun bt253 => ((decomp_Split.f k bt240.1 bt240.2.1 bt240.2.2.1 bt240.2.2.2 t250).bind fun bt255 => ((decomp_Sum.f k bt240.1 bt240.2.1 bt240.2.2.1 bt240.2.2.2 bt255.1).bind fun bt259 => (if bt253.2 = 0 then (if bt255.2 = 0 then (if bt259.2 = 0 then ((racewayref5_Same.f k bt259.1 t250).bind fun t263 => (racewaylaw15_DecompBack.j0 k t250 bt253.1 bt255.1 (!t263) bt240.1 bt240.2.1 bt240.2.2.1 bt240.2.2.2)) else (racewaylaw15_DecompBack.j0 k t250 bt253.1 bt255.1 true bt240.1 bt240.2.1 bt240.2.2.1 bt240.2.2.2)) else (racewaylaw15_DecompBack.j0 k t250 bt253.1 bt255.1 true bt240.1 bt240.2.1 bt240.2.2.1 bt240.2.2.2)) else (racewaylaw15_DecompBack.j0 k t250 bt253.1 bt255.1 true bt240.1 bt240.2.1 bt240.2.2.1 bt240.2.2.2)))))))) else (some false))) = some r := h); clear h; (replace H := Option.bind_eq_some_iff.mp H); (obtain ⟨t239, A60, H⟩ := H); (replace H : (if t239 = true then ((racewaylaw15_made.f k a0 a1 l2).bind fun bt240 => ((racewaylaw15_routed.f k bt240.1 bt240.2.1 bt240.2.2.1 bt240.2.2.2 l3).bind fun t247 => ((racewaylaw15_circled.f k bt240.1 bt240.2.1 bt240.2.2.1 bt240.2.2.2 t247 l4).bind fun t250 => ((flow_Value.f k bt240.1 bt240.2.1 bt240.2.2.1 bt240.2.2.2 t250).bind fun bt253 => ((decomp_Split.f k bt240.1 bt240.2.1 bt240.2.2.1 bt240.2.2.2 t250).bind fun bt255 => ((decomp_Sum.f k bt240.1 bt240.2.1 bt240.2.2.1 bt240.2.2.2 bt255.1).bind fun bt259 => (if bt253.2 = 0 then (if bt255.2 = 0 then (if bt259.2 = 0 then ((racewayref5_Same.f k bt259.1 t250).bind fun t263 => (racewaylaw15_DecompBack.j0 k t250 bt253.1 bt255.1 (!t263) bt240.1 bt240.2.1 bt240.2.2.1 bt240.2.2.2)) else (racewaylaw15_DecompBack.j0 k t250 bt253.1 bt255.1 true bt240.1 bt240.2.1 bt240.2.2.1 bt240.2.2.2)) else (racewaylaw15_DecompBack.j0 k t250 bt253.1 bt255.1 true bt240.1 bt240.2.1 bt240.2.2.1 bt240.2.2.2)) else (racewaylaw15_DecompBack.j0 k t250 bt253.1 bt255.1 true bt240.1 bt240.2.1 bt240.2.2.1 bt240.2.2.2)))))))) else (some false)) = some r := H); (have A6 := Aside0.mk A60); clear A60; (by_cases c7 : t239 = true)
 ·subst c7
  (have H1 : ((racewaylaw15_made.f k a0 a1 l2).bind fun bt240 => ((racewaylaw15_routed.f k bt240.1 bt240.2.1 bt240.2.2.1 bt240.2.2.2 l3).bind fun t247 => ((racewaylaw15_circled.f k bt240.1 bt240.2.1 bt240.2.2.1 bt240.2.2.2 t247 l4).bind fun t250 => ((flow_Value.f k bt240.1 bt240.2.1 bt240.2.2.1 bt240.2.2.2 t250).bind fun bt253 => ((decomp_Split.f k bt240.1 bt240.2.1 bt240.2.2.1 bt240.2.2.2 t250).bind fun bt255 => ((decomp_Sum.f k bt240.1 bt240.2.1 bt240.2.2.1 bt240.2.2.2 bt255.1).bind fun bt259 => (if bt253.2 = 0 then (if bt255.2 = 0 then (if bt259.2 = 0 then ((racewayref5_Same.f k bt259.1 t250).bind fun t263 => (racewaylaw15_DecompBack.j0 k t250 bt253.1 bt255.1 (!t263) bt240.1 bt240.2.1 bt240.2.2.1 bt240.2.2.2)) else (racewaylaw15_DecompBack.j0 k t250 bt253.1 bt255.1 true bt240.1 bt240.2.1 bt240.2.2.1 bt240.2.2.2)) else (racewaylaw15_DecompBack.j0 k t250 bt253.1 bt255.1 true bt240.1 bt240.2.1 bt240.2.2.1 bt240.2.2.2)) else (racewaylaw15_DecompBack.j0 k t250 bt253.1 bt255.1 true bt240.1 bt240.2.1 bt240.2.2.1 bt240.2.2.2)))))))) = some r := by rw [if_pos rfl] at H; exact H); clear H; (have H := H1); clear H1; (replace H := Option.bind_eq_some_iff.mp H); (obtain ⟨⟨t240, t241, t242, t243⟩, A80, H⟩ := H); (replace H : ((racewaylaw15_routed.f k t240 t241 t242 t243 l3).bind fun t247 => ((racewaylaw15_circled.f k t240 t241 t242 t243 t247 l4).bind fun t250 => ((flow_Value.f k t240 t241 t242 t243 t250).bind fun bt253 => ((decomp_Split.f k t240 t241 t242 t243 t250).bind fun bt255 => ((decomp_Sum.f k t240 t241 t242 t243 bt255.1).bind fun bt259 => (if bt253.2 = 0 then (if bt255.2 = 0 then (if bt259.2 = 0 then ((racewayref5_Same.f k bt259.1 t250).bind fun t263 => (racewaylaw15_DecompBack.j0 k t250 bt253.1 bt255.1 (!t263) t240 t241 t242 t243)) else (racewaylaw15_DecompBack.j0 k t250 bt253.1 bt255.1 true t240 t241 t242 t243)) else (racewaylaw15_DecompBack.j0 k t250 bt253.1 bt255.1 true t240 t241 t242 t243)) else (racewaylaw15_DecompBack.j0 k t250 bt253.1 bt255.1 true t240 t241 t242 t243))))))) = some r := H); (have A8 := Aside0.mk A80); clear A80; (replace H := Option.bind_eq_some_iff.mp H); (obtain ⟨t247, A90, H⟩ := H); (replace H : ((racewaylaw15_circled.f k t240 t241 t242 t243 t247 l4).bind fun t250 => ((flow_Value.f k t240 t241 t242 t243 t250).bind fun bt253 => ((decomp_Split.f k t240 t241 t242 t243 t250).bind fun bt255 => ((decomp_Sum.f k t240 t241 t242 t243 bt255.1).bind fun bt259 => (if bt253.2 = 0 then (if bt255.2 = 0 then (if bt259.2 = 0 then ((racewayref5_Same.f k bt259.1 t250).bind fun t263 => (racewaylaw15_DecompBack.j0 k t250 bt253.1 bt255.1 (!t263) t240 t241 t242 t243)) else (racewaylaw15_DecompBack.j0 k t250 bt253.1 bt255.1 true t240 t241 t242 t243)) else (racewaylaw15_DecompBack.j0 k t250 bt253.1 bt255.1 true t240 t241 t242 t243)) else (racewaylaw15_DecompBack.j0 k t250 bt253.1 bt255.1 true t240 t241 t242 t243)))))) = some r := H); (have A9 := Aside0.mk A90); clear A90; (replace H := Option.bind_eq_some_iff.mp H); (obtain ⟨t250, A100, H⟩ := H); (replace H : ((flow_Value.f k t240 t241 t242 t243 t250).bind fun bt253 => ((decomp_Split.f k t240 t241 t242 t243 t250).bind fun bt255 => ((decomp_Sum.f k t240 t241 t242 t243 bt255.1).bind fun bt259 => (if bt253.2 = 0 then (if bt255.2 = 0 then (if bt259.2 = 0 then ((racewayref5_Same.f k bt259.1 t250).bind fun t263 => (racewaylaw15_DecompBack.j0 k t250 bt253.1 bt255.1 (!t263) t240 t241 t242 t243)) else (racewaylaw15_DecompBack.j0 k t250 bt253.1 bt255.1 true t240 t241 t242 t243)) else (racewaylaw15_DecompBack.j0 k t250 bt253.1 bt255.1 true t240 t241 t242 t243)) else (racewaylaw15_DecompBack.j0 k t250 bt253.1 bt255.1 true t240 t241 t242 t243))))) = some r := H); (have A10 := Aside0.mk A100); clear A100; (replace H := Option.bind_eq_some_iff.mp H); (obtain ⟨⟨t253, t254⟩, A110, H⟩ := H); (replace H : ((decomp_Split.f k t240 t241 t242 t243 t250).bind fun bt255 => ((decomp_Sum.f k t240 t241 t242 t243 bt255.1).bind fun bt259 => (if t254 = 0 then (if bt255.2 = 0 then (if bt259.2 = 0 then ((racewayref5_Same.f k bt259.1 t250).bind fun t263 => (racewaylaw15_DecompBack.j0 k t250 t253 bt255.1 (!t263) t240 t241 t242 t243)) else (racewaylaw15_DecompBack.j0 k t250 t253 bt255.1 true t240 t241 t242 t243)) else (racewaylaw15_DecompBack.j0 k t250 t253 bt255.1 true t240 t241 t242 t243)) else (racewaylaw15_DecompBack.j0 k t250 t253 bt255.1 true t240 t241 t242 t243)))) = some r := H); (have A11 := Aside0.mk A110); clear A110; (replace H := Option.bind_eq_some_iff.mp H); (obtain ⟨⟨t255, t258⟩, A120, H⟩ := H); (replace H : ((decomp_Sum.f k t240 t241 t242 t243 t255).bind fun bt259 => (if t254 = 0 then (if t258 = 0 then (if bt259.2 = 0 then ((racewayref5_Same.f k bt259.1 t250).bind fun t263 => (racewaylaw15_DecompBack.j0 k t250 t253 t255 (!t263) t240 t241 t242 t243)) else (racewaylaw15_DecompBack.j0 k t250 t253 t255 true t240 t241 t242 t243)) else (racewaylaw15_DecompBack.j0 k t250 t253 t255 true t240 t241 t242 t243)) else (racewaylaw15_DecompBack.j0 k t250 t253 t255 true t240 t241 t242 t243))) = some r := H); (have A12 := Aside0.mk A120); clear A120; (replace H := Option.bind_eq_some_iff.mp H); (obtain ⟨⟨t259, t262⟩, A130, H⟩ := H); (replace H : (if t254 = 0 then (if t258 = 0 then (if t262 = 0 then ((racewayref5_Same.f k t259 t250).bind fun t263 => (racewaylaw15_DecompBack.j0 k t250 t253 t255 (!t263) t240 t241 t242 t243)) else (racewaylaw15_DecompBack.j0 k t250 t253 t255 true t240 t241 t242 t243)) else (racewaylaw15_DecompBack.j0 k t250 t253 t255 true t240 t241 t242 t243)) else (racewaylaw15_DecompBack.j0 k t250 t253 t255 true t240 t241 t242 t243)) = some r := H); (have A13 := Aside0.mk A130); clear A130; (have HC14 := Aside0.mk H); clear H; (go_enter Try.func5, Try.ntmps5); (try simp only [List.append_eq, List.cons_append, List.nil_append])
  try go_wp2_with (first | ((with_reducible refine gate_callee (f := 8) rfl ?_); refine goesL_ (some 28) rfl rfl Try.func8 (by kernel_rfl) rfl #[] rfl (by (try simp only [List.map_toArray, List.map_cons, List.map_nil]); first | done | rfl | (simp only [List.length_drop, List.length_take]; rfl)) ?_; (with_reducible refine (racewaylaw15_shown.calls k  true _ A6.out).mono ?_); rintro e w15 ⟨rfl, hb⟩; refine ⟨_, rfl, ?_⟩; have n0_ := Aside0.mk (below_step (by repeat (first | (with_reducible first | exact HB.out | apply below_alloc | apply pw_below_drewN | apply below_drew1) | exact HB.out)) hb); clear HB; have HB := n0_; clear n0_; (try clear hb); (try clear hb2); (try clear hk); (try clear hi)) | ((with_reducible refine gate_callee (f := 11) rfl ?_); refine goesL_ (some 34) rfl rfl Try.func11 (by kernel_rfl) rfl #[.int .i64 a0, .int .i64 a1, .slice A2 l2.length c2] rfl (by (try simp only [List.map_toArray, List.map_cons, List.map_nil]); first | done | rfl | (simp only [List.length_drop, List.length_take]; rfl)) ?_; (with_reducible refine (racewaylaw15_made.calls k a0 a1 _ _ l2 t240 t241 t242 t243 _ ?side1 ?side2 A8.out).mono ?_); (case side1 => repeat (first | exact (Kd.C_below HR2.out HB.out) | (with_reducible refine Kd.C_alloc ?_ _) | (with_reducible refine Kd.C_drewN ?_ _) | (with_reducible refine Kd.C_drew ?_))); (case side2 => exact HC2.out); rintro e w16 ⟨v244, rfl, ho0, hb⟩; refine ⟨_, rfl, ?_⟩; have n0_ := Aside0.mk (Kd.R_lower ho0 (below_size (by repeat (first | (with_reducible first | exact HB.out | apply below_alloc | apply pw_below_drewN | apply below_drew1) | exact HB.out)))); have n1_ := Aside0.mk (below_step (by repeat (first | (with_reducible first | exact HB.out | apply below_alloc | apply pw_below_drewN | apply below_drew1) | exact HB.out)) hb); clear HB; have HO245 := n0_; have HB := n1_; clear n0_ n1_; (try clear hb); (try clear hb2); (try clear hk); (try clear hi); (try clear ho0)) | ((with_reducible refine gate_dst (N := 12) rfl ?_); (try (refine gate_guard (by rfl) ?_; dsimp only)); refine box_event ?hg (N := 12) ?hd (cs := #[.int .i64 0, .int .i64 0, .int .i64 0, .slice none 0 0]) (t := 26) ?hr ?_; (case hd => rfl); (case hg => rfl); (case hr => first | (go_simp; done) | (go_simp; rfl)); intro gb246 hg w17 hbox hb; have n0_ := Aside0.mk (Kd.R_below (by (with_reducible repeat first | apply Kd.R_alloc | apply Kd.R_drewN | apply Kd.R_drew); exact HO245.out) hb); have n1_ := Aside0.mk (below_step (by repeat (first | (with_reducible first | exact HB.out | apply below_alloc | apply pw_below_drewN | apply below_drew1) | exact HB.out)) hb); have n2_ := Aside0.mk (hbox); have n3_ := Aside0.mk ((by rw [hg]; exact (below_size (by repeat (first | (with_reducible first | exact HB.out | apply below_alloc | apply pw_below_drewN | apply below_drew1) | exact HB.out))) : w.heap.size ≤ gb246)); have n4_ := Aside0.mk ((by rw [hg]; exact (below_size (by repeat (first | (with_reducible first | exact HB.out | apply below_alloc | apply pw_below_drewN | apply below_drew1) | exact HB.out))) : w.heap.size ≤ gb246)); clear HO245; clear HB; have HO245 := n0_; have HB := n1_; have BK246 := n2_; have GW246 := n3_; have GE246 := n4_; clear n0_ n1_ n2_ n3_ n4_; clear hb hbox hg; have hcz18_0 : w17.cell? ⟨gb246, 0, none⟩ = some (.int .i64 0) := (blk_cell BK246.out 0).trans rfl; have hcz18_1 : w17.cell? ⟨gb246, 1, none⟩ = some (.int .i64 0) := (blk_cell BK246.out 1).trans rfl; have hcz18_2 : w17.cell? ⟨gb246, 2, none⟩ = some (.int .i64 0) := (blk_cell BK246.out 2).trans rfl; have hcz18_3 : w17.cell? ⟨gb246, 3, none⟩ = some (.slice none 0 0) := (blk_cell BK246.out 3).trans rfl; have hfz18_0 := blk_frozen BK246.out 0; have hfz18_1 := blk_frozen BK246.out 1; have hfz18_2 := blk_frozen BK246.out 2; have hfz18_3 := blk_frozen BK246.out 3; obtain ⟨Ao19, co19, eo19⟩ := Kd.R_slice HO245.out; subst eo19))
  (have n0_ : Aside0 (Kd.R k30 30 ((((w17.setCell ⟨gb246, 0, none⟩ (.int .i64 t240)).setCell ⟨gb246, 1, none⟩ (.int .i64 t241)).setCell ⟨gb246, 2, none⟩ (.int .i64 t242)).setCell ⟨gb246, 3, none⟩ (.slice Ao19 t243.length co19)) w.heap.size (fun _ => True) (.slice Ao19 t243.length co19) t243) := ⟨by (with_reducible repeat first | apply Kd.R_alloc | apply Kd.R_drewN | apply Kd.R_drew); exact Kd.R_mono (Kd.R_far (p := ⟨gb246, 3, none⟩) (Kd.R_far (p := ⟨gb246, 2, none⟩) (Kd.R_far (p := ⟨gb246, 1, none⟩) (Kd.R_far (p := ⟨gb246, 0, none⟩) (Kd.R_types HO245.out BK246.out (by decide)) (fun _ hk => hk.2) (.int .i64 t240)) (fun _ hk => hk.2) (.int .i64 t241)) (fun _ hk => hk.2) (.int .i64 t242)) (fun _ hk => hk.2) (.slice Ao19 t243.length co19)) (fun _ hk => trivial)⟩); (have n1_ : Aside0 (((((w17.setCell ⟨gb246, 0, none⟩ (.int .i64 t240)).setCell ⟨gb246, 1, none⟩ (.int .i64 t241)).setCell ⟨gb246, 2, none⟩ (.int .i64 t242)).setCell ⟨gb246, 3, none⟩ (.slice Ao19 t243.length co19)).heap[gb246]? = some (.cells #[.int .i64 t240, .int .i64 t241, .int .i64 t242, .slice Ao19 t243.length co19] 26 (0, 0))) := ⟨by (with_reducible repeat first | refine blk_drewN ?_ _ | refine blk_drew ?_ | refine blk_alloc ?_ _); refine blk_put (cs := #[.int .i64 t240, .int .i64 t241, .int .i64 t242, .slice none 0 0]) ?_ 3 _ rfl; (with_reducible repeat first | refine blk_drewN ?_ _ | refine blk_drew ?_ | refine blk_alloc ?_ _); refine blk_put (cs := #[.int .i64 t240, .int .i64 t241, .int .i64 0, .slice none 0 0]) ?_ 2 _ rfl; (with_reducible repeat first | refine blk_drewN ?_ _ | refine blk_drew ?_ | refine blk_alloc ?_ _); refine blk_put (cs := #[.int .i64 t240, .int .i64 0, .int .i64 0, .slice none 0 0]) ?_ 1 _ rfl; (with_reducible repeat first | refine blk_drewN ?_ _ | refine blk_drew ?_ | refine blk_alloc ?_ _); refine blk_put (cs := #[.int .i64 0, .int .i64 0, .int .i64 0, .slice none 0 0]) ?_ 0 _ rfl; (with_reducible repeat first | refine blk_drewN ?_ _ | refine blk_drew ?_ | refine blk_alloc ?_ _); exact BK246.out⟩); (have n2_ : Aside0 (Below w.heap.size w ((((w17.setCell ⟨gb246, 0, none⟩ (.int .i64 t240)).setCell ⟨gb246, 1, none⟩ (.int .i64 t241)).setCell ⟨gb246, 2, none⟩ (.int .i64 t242)).setCell ⟨gb246, 3, none⟩ (.slice Ao19 t243.length co19))) := ⟨by repeat (first | (with_reducible first | exact HB.out | apply below_alloc | apply pw_below_drewN | apply below_drew1 | refine below_set ?_ GE246.out) | exact HB.out)⟩); (try clear HO245); (try clear BK246); (try clear HB); (try simp only [Go.Proofs.YtnjdjnoncoeffaaW.MyOpen.setCell_drewN_out]); (generalize ((((w17.setCell ⟨gb246, 0, none⟩ (.int .i64 t240)).setCell ⟨gb246, 1, none⟩ (.int .i64 t241)).setCell ⟨gb246, 2, none⟩ (.int .i64 t242)).setCell ⟨gb246, 3, none⟩ (.slice Ao19 t243.length co19)) = w20 at n0_ n1_ n2_ ⊢); (have HO245 := n0_); (have BK246 := n1_); (have HB := n2_); clear n0_ n1_ n2_; (have n0_ := Aside0.mk (Kd.R_drew HO245.out)); (have n1_ := Aside0.mk (blk_drew BK246.out)); (have n2_ := Aside0.mk (below_drew1 HB.out)); clear HO245; clear BK246; clear HB; (have HO245 := n0_); (have BK246 := n1_); (have HB := n2_); clear n0_ n1_ n2_; (refine start_ (n := 7) (S := fun w' => w'.cell? ⟨gb246, 0, none⟩ = some (.int .i64 t240) ∧ w'.cell? ⟨gb246, 1, none⟩ = some (.int .i64 t241) ∧ w'.cell? ⟨gb246, 2, none⟩ = some (.int .i64 t242) ∧ w'.cell? ⟨gb246, 3, none⟩ = some (.slice Ao19 t243.length co19)) (ds := []) #[F,F,F,F,F,F,F] (by kernel_rfl) rfl rfl ⟨(blk_cell BK246.out 0).trans rfl, (blk_cell BK246.out 1).trans rfl, (blk_cell BK246.out 2).trans rfl, (blk_cell BK246.out 3).trans rfl⟩ (fun hHeld => ?_)); (generalize w20.drew = w21 at HO245 BK246 HB hHeld ⊢); (refine pure_ (i := 2) (N := some 37) (v := ?_) (a' := ?_) #[F,F,T,F,F,F,F] rfl rfl (by kernel_rfl) (fun _ _ _ h => h) (Or.inl ⟨by rfl, ?_⟩) ?_ ?_); rotate_left; (·intro w'; go_simp; with_reducible rfl); rotate_left; (·(simp only [Act.put, sA_, sZ_, sS_, i64_w, i32_w]); rfl); (refine pure_ (i := 4) (N := some 39) (v := ?_) (a' := ?_) #[F,F,T,F,T,F,F] rfl rfl (by kernel_rfl) (fun _ _ _ h => h) (Or.inl ⟨by rfl, ?_⟩) ?_ ?_); rotate_left; (·intro w'; go_simp; with_reducible rfl); rotate_left; (·(simp only [Act.put, sA_, sZ_, sS_, i64_w, i32_w]); rfl); (refine take_ (i := 0) (N := some 35) (v := ?_) (a' := ?_) #[T,F,T,F,T,F,F] rfl rfl (by kernel_rfl) (fun _ _ _ h => h) (Or.inl ⟨by rfl, ?_⟩) hHeld ?_ ?_); rotate_left; (·(rintro w' ⟨s0, s1, s2, s3⟩); go_simp; with_reducible rfl); rotate_left; (·(simp only [Act.put, sA_, sZ_, sS_, i64_w, i32_w]); rfl); (refine take_ (i := 1) (N := some 36) (v := ?_) (a' := ?_) #[T,T,T,F,T,F,F] rfl rfl (by kernel_rfl) (fun _ _ _ h => h) (Or.inl ⟨by rfl, ?_⟩) hHeld ?_ ?_); rotate_left; (·(rintro w' ⟨s0, s1, s2, s3⟩); go_simp; with_reducible rfl); rotate_left; (·(simp only [Act.put, sA_, sZ_, sS_, i64_w, i32_w]); rfl); (refine one_ (i := 3) (N := some 38) #[T,T,T,T,T,F,F] rfl rfl (by kernel_rfl) (by decide) (fun K hK => ?_)); (refine goes_ Try.func13 (by kernel_rfl) rfl #[.agg #[.int .i64 t240, .int .i64 t241, .int .i64 t242, .slice Ao19 t243.length co19], .slice A3 l3.length c3] (by rfl) rfl rfl (by (try simp only [List.map_toArray, List.map_cons, List.map_nil]); first | done | rfl | (simp only [List.length_drop, List.length_take]; rfl)) ?_); (with_reducible refine (racewaylaw15_routed.calls k t240 t241 t242 _ _ t243 _ _ l3 t247 _ ?side1 ?side2 ?side3 ?side4 A9.out).mono ?_); (case side1 => repeat (first | exact (Kd.R_reads' HO245.out).2.2 | (with_reducible refine Kd.C_alloc ?_ _) | (with_reducible refine Kd.C_drewN ?_ _) | (with_reducible refine Kd.C_drew ?_))); (case side2 => exact (Kd.R_reads' HO245.out).2.1); (case side3 => repeat (first | exact (Kd.C_below HR3.out HB.out) | (with_reducible refine Kd.C_alloc ?_ _) | (with_reducible refine Kd.C_drewN ?_ _) | (with_reducible refine Kd.C_drew ?_)))
  (case side4 => exact HC3.out); (rintro e w22 ⟨v248, rfl, ho0, hb⟩); (refine ⟨_, rfl, ?_⟩); (have n0_ := Aside0.mk (Kd.R_below (by (with_reducible repeat first | apply Kd.R_alloc | apply Kd.R_drewN | apply Kd.R_drew); exact HO245.out) hb)); (have n1_ := Aside0.mk (Kd.R_lower ho0 (below_size (by repeat (first | (with_reducible first | exact HB.out | apply below_alloc | apply pw_below_drewN | apply below_drew1 | refine below_set ?_ GE246.out) | exact HB.out))))); (have n2_ := Aside0.mk (blk_below (g := gb246) (o := .cells #[.int .i64 t240, .int .i64 t241, .int .i64 t242, .slice Ao19 t243.length co19] 26 (0, 0)) (by (with_reducible repeat first | refine blk_drewN ?_ _ | refine blk_drew ?_ | refine blk_alloc ?_ _); exact BK246.out) hb)); (have n3_ := Aside0.mk (below_step (by repeat (first | (with_reducible first | exact HB.out | apply below_alloc | apply pw_below_drewN | apply below_drew1 | refine below_set ?_ GE246.out) | exact HB.out)) hb)); clear HO245; clear BK246; clear HB; (have HO245 := n0_); (have HO249 := n1_); (have BK246 := n2_); (have HB := n3_); clear n0_ n1_ n2_ n3_; (try clear hb); (try clear hb2); (try clear hk); (try clear hi); (try clear ho0); (obtain ⟨Ao23, co23, eo23⟩ := Kd.R_slice HO249.out); (first | subst eo23 | (injection eo23 with f1_ f2_ f3_; have f4_ := f1_.symm; have f5_ := f3_.symm; clear f1_ f2_ f3_; subst f4_; subst f5_)); (refine hK.out _ _ ⟨(blk_cell BK246.out 0).trans rfl, (blk_cell BK246.out 1).trans rfl, (blk_cell BK246.out 2).trans rfl, (blk_cell BK246.out 3).trans rfl⟩ (fun hHeld => ?_)); clear hK K; (refine norm_ (a' := ?_) ?_ ?_); rotate_left; (·(show Act.put _ (some 38) _ = _); (simp only [Act.put, sA_, sZ_, sS_, i64_w, i32_w]); rfl); (refine one_ (i := 5) (N := some 40) #[T,T,T,T,T,T,F] rfl rfl (by kernel_rfl) (by decide) (fun K hK => ?_)); (refine goes_ Try.func12 (by kernel_rfl) rfl #[.agg #[.int .i64 t240, .int .i64 t241, .int .i64 t242, .slice Ao19 t243.length co19], .slice Ao23 t247.length co23, .slice A4 l4.length c4] (by rfl) rfl rfl (by (try simp only [List.map_toArray, List.map_cons, List.map_nil]); first | done | rfl | (simp only [List.length_drop, List.length_take]; rfl)) ?_); (with_reducible refine (racewaylaw15_circled.calls k t240 t241 t242 _ _ t243 (fun k_ => some k_ = (.slice Ao23 t247.length co23 : Value).ownBlock) (.slice Ao23 t247.length co23) t247 _ _ l4 t250 w _ ?side1 ?side2 ?side3 ?side4 ?side5 ?side6 A10.out).mono ?_); (case side1 => repeat (first | (with_reducible first | exact HB.out | apply below_alloc | apply pw_below_drewN | apply below_drew1 | refine below_set ?_ GE246.out) | exact HB.out)); (case side2 => exact Kd.C_kept_own ((Kd.R_apart' HO245.out (Kd.R_typed HO249.out) (by decide))) (fun k_ hk_ hs_ => (hk_.2) hs_)); (case side3 => exact (Kd.R_reads' HO245.out).2.1); (case side4 => exact Kd.R_tight rfl HO249.out); (case side5 => exact Kd.C_kept_came (Kd.heap_int .i64) HR4.out (by repeat (first | (with_reducible first | exact HB.out | apply below_alloc | apply pw_below_drewN | apply below_drew1 | refine below_set ?_ GE246.out) | exact HB.out)) (fun k_ hs_ => (fun e_ => Kd.R_base HO249.out k_ e_.symm) hs_)); (case side6 => exact HC4.out); (rintro e w24 ⟨v251, rfl, ho0, hb, hkp⟩); (refine ⟨_, rfl, ?_⟩); (have n0_ := Aside0.mk (Kd.R_mono (ok' := fun k_ => True) (Kd.R_keptB ((Kd.R_apart' HO245.out (Kd.R_typed HO249.out) (by decide))) hkp (fun k_ hk_ hs_ => (hk_.2) hs_)) (fun k_ hk_ => trivial))); (have n1_ := Aside0.mk (blk_kept (by (with_reducible repeat first | refine blk_drewN ?_ _ | refine blk_drew ?_ | refine blk_alloc ?_ _); exact BK246.out) hkp (fun hs_ => (fun e_ => (Kd.R_ne HO249.out BK246.out (by decide)) e_) hs_))); (have n2_ := Aside0.mk (Kd.R_mono (ok' := fun k_ => True) ho0 (fun k_ hk_ => trivial))); (have n3_ := Aside0.mk (hb)); clear HO245; clear BK246; clear HB; clear HO249; (have HO245 := n0_); (have BK246 := n1_); (have HO252 := n2_); (have HB := n3_); clear n0_ n1_ n2_ n3_; (try clear hb); (try clear hkp); (try clear ho0); (refine hK.out _ _ ⟨(blk_cell BK246.out 0).trans rfl, (blk_cell BK246.out 1).trans rfl, (blk_cell BK246.out 2).trans rfl, (blk_cell BK246.out 3).trans rfl⟩ (fun hHeld => ?_)); clear hK K; (refine norm_ (a' := ?_) ?_ ?_); rotate_left; (·(show Act.put _ (some 40) _ = _); (simp only [Act.put, sA_, sZ_, sS_, i64_w, i32_w]); rfl); (refine pure_ (i := 6) (N := some 13) (v := ?_) (a' := ?_) #[T,T,T,T,T,T,T] rfl rfl (by kernel_rfl) (fun _ _ _ h => h) (Or.inl ⟨by rfl, ?_⟩) ?_ ?_); rotate_left; (·intro w'; go_simp; with_reducible rfl); rotate_left; (·(simp only [Act.put, sA_, sZ_, sS_, i64_w, i32_w]); rfl); (refine done_ (by kernel_rfl) ?_); (have hcz25_0 : w24.cell? ⟨gb246, 0, none⟩ = some (.int .i64 t240) := (blk_cell BK246.out 0).trans rfl); (have hcz25_1 : w24.cell? ⟨gb246, 1, none⟩ = some (.int .i64 t241) := (blk_cell BK246.out 1).trans rfl); (have hcz25_2 : w24.cell? ⟨gb246, 2, none⟩ = some (.int .i64 t242) := (blk_cell BK246.out 2).trans rfl); (have hcz25_3 : w24.cell? ⟨gb246, 3, none⟩ = some (.slice Ao19 t243.length co19) := (blk_cell BK246.out 3).trans rfl); (have hfz25_0 := blk_frozen BK246.out 0); (have hfz25_1 := blk_frozen BK246.out 1); (have hfz25_2 := blk_frozen BK246.out 2); (have hfz25_3 := blk_frozen BK246.out 3); (obtain ⟨Ao26, co26, eo26⟩ := Kd.R_slice HO252.out); subst eo26; (go_upto_region 9 with (first | ((with_reducible refine gate_callee (f := 14) rfl ?_); refine goesL_ (some 44) rfl rfl Try.func14 (by kernel_rfl) rfl #[.agg #[.int .i64 t240, .int .i64 t241, .int .i64 t242, .slice Ao19 t243.length co19], .slice Ao26 t250.length co26] rfl (by (try simp only [List.map_toArray, List.map_cons, List.map_nil]); first | done | rfl | (simp only [List.length_drop, List.length_take]; rfl)) ?_; (with_reducible refine (flow_Value.calls k t240 t241 t242 _ _ t243 _ _ t250 t253 t254 _ ?side1 ?side2 ?side3 ?side4 A11.out).mono ?_); (case side1 => repeat (first | exact (Kd.R_reads' HO245.out).2.2 | (with_reducible refine Kd.C_alloc ?_ _) | (with_reducible refine Kd.C_drewN ?_ _) | (with_reducible refine Kd.C_drew ?_))); (case side2 => exact (Kd.R_reads' HO245.out).2.1); (case side3 => repeat (first | exact (Kd.R_reads' HO252.out).2.2 | (with_reducible refine Kd.C_alloc ?_ _) | (with_reducible refine Kd.C_drewN ?_ _) | (with_reducible refine Kd.C_drew ?_))); (case side4 => exact (Kd.R_reads' HO252.out).2.1); rintro e w27 ⟨rfl, hb⟩; refine ⟨_, rfl, ?_⟩; have n0_ := Aside0.mk (Kd.R_below (by (with_reducible repeat first | apply Kd.R_alloc | apply Kd.R_drewN | apply Kd.R_drew); exact HO245.out) hb); have n1_ := Aside0.mk (Kd.R_below (by (with_reducible repeat first | apply Kd.R_alloc | apply Kd.R_drewN | apply Kd.R_drew); exact HO252.out) hb); have n2_ := Aside0.mk (blk_below (g := gb246) (o := .cells #[.int .i64 t240, .int .i64 t241, .int .i64 t242, .slice Ao19 t243.length co19] 26 (0, 0)) (by (with_reducible repeat first | refine blk_drewN ?_ _ | refine blk_drew ?_ | refine blk_alloc ?_ _); exact BK246.out) hb); have n3_ := Aside0.mk (below_step (by repeat (first | (with_reducible first | exact HB.out | apply below_alloc | apply pw_below_drewN | apply below_drew1 | refine below_set ?_ GE246.out) | exact HB.out)) hb); clear HO245; clear HO252; clear BK246; clear HB; have HO245 := n0_; have HO252 := n1_; have BK246 := n2_; have HB := n3_; clear n0_ n1_ n2_ n3_; (try clear hb); (try clear hb2); (try clear hk); (try clear hi); have hcz28_0 : w27.cell? ⟨gb246, 0, none⟩ = some (.int .i64 t240) := (blk_cell BK246.out 0).trans rfl; have hcz28_1 : w27.cell? ⟨gb246, 1, none⟩ = some (.int .i64 t241) := (blk_cell BK246.out 1).trans rfl; have hcz28_2 : w27.cell? ⟨gb246, 2, none⟩ = some (.int .i64 t242) := (blk_cell BK246.out 2).trans rfl; have hcz28_3 : w27.cell? ⟨gb246, 3, none⟩ = some (.slice Ao19 t243.length co19) := (blk_cell BK246.out 3).trans rfl; have hfz28_0 := blk_frozen BK246.out 0; have hfz28_1 := blk_frozen BK246.out 1; have hfz28_2 := blk_frozen BK246.out 2; have hfz28_3 := blk_frozen BK246.out 3) | ((with_reducible refine gate_callee (f := 10) rfl ?_); refine goesL_ (some 50) rfl rfl Try.func10 (by kernel_rfl) rfl #[.agg #[.int .i64 t240, .int .i64 t241, .int .i64 t242, .slice Ao19 t243.length co19], .slice Ao26 t250.length co26] rfl (by (try simp only [List.map_toArray, List.map_cons, List.map_nil]); first | done | rfl | (simp only [List.length_drop, List.length_take]; rfl)) ?_; (with_reducible refine (decomp_Split.calls k t240 t241 t242 _ _ t243 _ _ t250 t255 t258 _ ?side1 ?side2 ?side3 ?side4 A12.out).mono ?_); (case side1 => repeat (first | exact (Kd.R_reads' HO245.out).2.2 | (with_reducible refine Kd.C_alloc ?_ _) | (with_reducible refine Kd.C_drewN ?_ _) | (with_reducible refine Kd.C_drew ?_))); (case side2 => exact (Kd.R_reads' HO245.out).2.1); (case side3 => repeat (first | exact (Kd.R_reads' HO252.out).2.2 | (with_reducible refine Kd.C_alloc ?_ _) | (with_reducible refine Kd.C_drewN ?_ _) | (with_reducible refine Kd.C_drew ?_))); (case side4 => exact (Kd.R_reads' HO252.out).2.1); rintro e w29 ⟨v256, rfl, ho0, hb⟩; refine ⟨_, rfl, ?_⟩; have n0_ := Aside0.mk (Kd.R_below (by (with_reducible repeat first | apply Kd.R_alloc | apply Kd.R_drewN | apply Kd.R_drew); exact HO245.out) hb); have n1_ := Aside0.mk (Kd.R_below (by (with_reducible repeat first | apply Kd.R_alloc | apply Kd.R_drewN | apply Kd.R_drew); exact HO252.out) hb); have n2_ := Aside0.mk (Kd.S_lower ho0 (below_size (by repeat (first | (with_reducible first | exact HB.out | apply below_alloc | apply pw_below_drewN | apply below_drew1 | refine below_set ?_ GE246.out) | exact HB.out)))); have n3_ := Aside0.mk (blk_below (g := gb246) (o := .cells #[.int .i64 t240, .int .i64 t241, .int .i64 t242, .slice Ao19 t243.length co19] 26 (0, 0)) (by (with_reducible repeat first | refine blk_drewN ?_ _ | refine blk_drew ?_ | refine blk_alloc ?_ _); exact BK246.out) hb); have n4_ := Aside0.mk (below_step (by repeat (first | (with_reducible first | exact HB.out | apply below_alloc | apply pw_below_drewN | apply below_drew1 | refine below_set ?_ GE246.out) | exact HB.out)) hb); clear HO245; clear HO252; clear BK246; clear HB; have HO245 := n0_; have HO252 := n1_; have HO257 := n2_; have BK246 := n3_; have HB := n4_; clear n0_ n1_ n2_ n3_ n4_; (try clear hb); (try clear hb2); (try clear hk); (try clear hi); (try clear ho0); have hcz30_0 : w29.cell? ⟨gb246, 0, none⟩ = some (.int .i64 t240) := (blk_cell BK246.out 0).trans rfl; have hcz30_1 : w29.cell? ⟨gb246, 1, none⟩ = some (.int .i64 t241) := (blk_cell BK246.out 1).trans rfl; have hcz30_2 : w29.cell? ⟨gb246, 2, none⟩ = some (.int .i64 t242) := (blk_cell BK246.out 2).trans rfl; have hcz30_3 : w29.cell? ⟨gb246, 3, none⟩ = some (.slice Ao19 t243.length co19) := (blk_cell BK246.out 3).trans rfl; have hfz30_0 := blk_frozen BK246.out 0; have hfz30_1 := blk_frozen BK246.out 1; have hfz30_2 := blk_frozen BK246.out 2; have hfz30_3 := blk_frozen BK246.out 3; obtain ⟨Ao31, co31, eo31⟩ := Kd.S_slice HO257.out; subst eo31) | ((with_reducible refine gate_callee (f := 15) rfl ?_); refine goesL_ (some 56) rfl rfl Try.func15 (by kernel_rfl) rfl #[.agg #[.int .i64 t240, .int .i64 t241, .int .i64 t242, .slice Ao19 t243.length co19], .slice Ao31 t255.length co31] rfl (by (try simp only [List.map_toArray, List.map_cons, List.map_nil]); first | done | rfl | (simp only [List.length_drop, List.length_take]; rfl)) ?_; (with_reducible refine (decomp_Sum.calls k t240 t241 t242 _ _ t243 _ _ t255 t259 t262 _ ?side1 ?side2 ?side3 ?side4 A13.out).mono ?_); (case side1 => repeat (first | exact (Kd.R_reads' HO245.out).2.2 | (with_reducible refine Kd.C_alloc ?_ _) | (with_reducible refine Kd.C_drewN ?_ _) | (with_reducible refine Kd.C_drew ?_))); (case side2 => exact (Kd.R_reads' HO245.out).2.1); (case side3 => repeat (first | exact (Kd.S_reads' HO257.out).2.2 | (with_reducible refine Kd.C_alloc ?_ _) | (with_reducible refine Kd.C_drewN ?_ _) | (with_reducible refine Kd.C_drew ?_))); (case side4 => exact (Kd.S_reads' HO257.out).2.1); rintro e w32 ⟨v260, rfl, ho0, hb⟩; refine ⟨_, rfl, ?_⟩; have n0_ := Aside0.mk (Kd.R_below (by (with_reducible repeat first | apply Kd.R_alloc | apply Kd.R_drewN | apply Kd.R_drew); exact HO245.out) hb); have n1_ := Aside0.mk (Kd.R_elder' (by (with_reducible repeat first | apply Kd.R_alloc | apply Kd.R_drewN | apply Kd.R_drew); exact HO252.out) (Kd.R_base ho0) hb); have n2_ := Aside0.mk (Kd.S_below (by (with_reducible repeat (first | apply Kd.S_alloc | apply Kd.S_drewN | apply Kd.S_drew)); exact HO257.out) hb); have n3_ := Aside0.mk (Kd.R_lower (Kd.R_new' ho0 (Kd.R_lt (by (with_reducible repeat first | apply Kd.R_alloc | apply Kd.R_drewN | apply Kd.R_drew); exact HO252.out))) (below_size (by repeat (first | (with_reducible first | exact HB.out | apply below_alloc | apply pw_below_drewN | apply below_drew1 | refine below_set ?_ GE246.out) | exact HB.out)))); have n4_ := Aside0.mk (blk_below (g := gb246) (o := .cells #[.int .i64 t240, .int .i64 t241, .int .i64 t242, .slice Ao19 t243.length co19] 26 (0, 0)) (by (with_reducible repeat first | refine blk_drewN ?_ _ | refine blk_drew ?_ | refine blk_alloc ?_ _); exact BK246.out) hb); have n5_ := Aside0.mk (below_step (by repeat (first | (with_reducible first | exact HB.out | apply below_alloc | apply pw_below_drewN | apply below_drew1 | refine below_set ?_ GE246.out) | exact HB.out)) hb); clear HO245; clear HO252; clear HO257; clear BK246; clear HB; have HO245 := n0_; have HO252 := n1_; have HO257 := n2_; have HO261 := n3_; have BK246 := n4_; have HB := n5_; clear n0_ n1_ n2_ n3_ n4_ n5_; (try clear hb); (try clear hb2); (try clear hk); (try clear hi); (try clear ho0))))
  (try simp only [Act.put, sA_, sZ_, sS_]); (go_cut [74] (fun v74 wc => ∃ (kq : Nat) (x74_13 : Bool), v74 = .bool x74_13 ∧ Aside0 (racewaylaw15_DecompBack.j0 kq t250 t253 t255 x74_13 t240 t241 t242 t243 = some r) ∧ Aside0 (kq ≤ k) ∧ Aside0 (Kd.R (Kd.int .i64) 2 wc w.heap.size (fun _ => True) (.slice Ao26 t250.length co26) t250) ∧ Aside0 (Kd.S k36 36 wc w.heap.size (fun _ => True) (.slice Ao31 t255.length co31) t255) ∧ Aside0 (Kd.R k30 30 wc w.heap.size (fun _ => True) (.slice Ao19 t243.length co19) t243) ∧ Aside0 (wc.heap[gb246]? = some (.cells #[.int .i64 t240, .int .i64 t241, .int .i64 t242, (.slice Ao19 t243.length co19)] 26 (0, 0))) ∧ Aside0 (Below w.heap.size w wc)))
  case first =>
   ((have H := HC14.out);(clear HC14)); (by_cases c33 : t254 = 0)
   ·(rw [if_pos c33] at H);(have c33b0 : (t254 == 0) = true := beq_iff_eq.mpr c33);(have c33b1 : (t254 != 0) = false := bne_eq_false_iff_eq.mpr c33);(clear c33);((first | rw [c33b0] | (simp only [i64_w, i32_w]; rw [c33b0]) | skip))
    by_cases c34 : t258 = 0
    ·(rw [if_pos c34] at H);(have c34b0 : (t258 == 0) = true := beq_iff_eq.mpr c34);(have c34b1 : (t258 != 0) = false := bne_eq_false_iff_eq.mpr c34);(clear c34)
     by_cases c35 : t262 = 0
     ·(rw [if_pos c35] at H);(have c35b0 : (t262 == 0) = true := beq_iff_eq.mpr c35);(have c35b1 : (t262 != 0) = false := bne_eq_false_iff_eq.mpr c35);(clear c35);(replace H := Option.bind_eq_some_iff.mp H);(obtain ⟨t263, A360, H⟩ := H);(replace H : (racewaylaw15_DecompBack.j0 k t250 t253 t255 (!t263) t240 t241 t242 t243) = some r := H);(have A36 := Aside0.mk A360);(clear A360)
      as_aux_lemma =>
       ((have H' := Aside0.mk H);(clear H);(obtain ⟨Ao37, co37, eo37⟩ := Kd.R_slice HO261.out);(subst eo37)); (go_wp2_with (first | (go_at_call 16; (with_reducible refine (racewayref5_Same.calls k _ _ t259 _ _ t250 t263 _ ?side1 ?side2 ?side3 ?side4 A36.out).mono ?_); (case side1 => repeat (first | exact (Kd.R_reads' HO261.out).2.2 | (with_reducible refine Kd.C_alloc ?_ _) | (with_reducible refine Kd.C_drewN ?_ _) | (with_reducible refine Kd.C_drew ?_))); (case side2 => exact (Kd.R_reads' HO261.out).2.1); (case side3 => repeat (first | exact (Kd.R_reads' HO252.out).2.2 | (with_reducible refine Kd.C_alloc ?_ _) | (with_reducible refine Kd.C_drewN ?_ _) | (with_reducible refine Kd.C_drew ?_))); (case side4 => exact (Kd.R_reads' HO252.out).2.1); rintro e w' ⟨rfl, ⟨nd, rfl⟩⟩))); (go_meet)
       case rel => exact ⟨_, (!t263), (by first | rfl | (simp; done) | (simp [*]; done)), H', ⟨by first | omega | exact Nat.le_refl _⟩, ⟨by (with_reducible repeat first | apply Kd.R_alloc | apply Kd.R_drewN | apply Kd.R_drew); exact Kd.R_mono HO252.out (fun _ hk => trivial)⟩, ⟨by (with_reducible repeat (first | apply Kd.S_alloc | apply Kd.S_drewN | apply Kd.S_drew)); exact HO257.out⟩, ⟨by (with_reducible repeat first | apply Kd.R_alloc | apply Kd.R_drewN | apply Kd.R_drew); exact HO245.out⟩, ⟨by (with_reducible repeat first | refine blk_drewN ?_ _ | refine blk_drew ?_ | refine blk_alloc ?_ _); exact BK246.out⟩, ⟨by repeat (first | (with_reducible first | exact HB.out | apply below_alloc | apply pw_below_drewN | apply below_drew1 | refine below_set ?_ GE246.out) | exact HB.out)⟩⟩
     ·(rw [if_neg c35] at H);(have c35b0 : (t262 == 0) = false := beq_eq_false_iff_ne.mpr c35);(have c35b1 : (t262 != 0) = true := bne_iff_ne.mpr c35)
      as_aux_lemma =>
       ((have H' := Aside0.mk H);(clear H)); (go_wp2); (go_meet)
       case rel => exact ⟨_, (true), (by first | rfl | (simp; done) | (simp [*]; done)), H', ⟨by first | omega | exact Nat.le_refl _⟩, ⟨by (with_reducible repeat first | apply Kd.R_alloc | apply Kd.R_drewN | apply Kd.R_drew); exact Kd.R_mono HO252.out (fun _ hk => trivial)⟩, ⟨by (with_reducible repeat (first | apply Kd.S_alloc | apply Kd.S_drewN | apply Kd.S_drew)); exact HO257.out⟩, ⟨by (with_reducible repeat first | apply Kd.R_alloc | apply Kd.R_drewN | apply Kd.R_drew); exact HO245.out⟩, ⟨by (with_reducible repeat first | refine blk_drewN ?_ _ | refine blk_drew ?_ | refine blk_alloc ?_ _); exact BK246.out⟩, ⟨by repeat (first | (with_reducible first | exact HB.out | apply below_alloc | apply pw_below_drewN | apply below_drew1 | refine below_set ?_ GE246.out) | exact HB.out)⟩⟩
    ·(rw [if_neg c34] at H);(have c34b0 : (t258 == 0) = false := beq_eq_false_iff_ne.mpr c34);(have c34b1 : (t258 != 0) = true := bne_iff_ne.mpr c34)
     as_aux_lemma =>
      ((have H' := Aside0.mk H);(clear H)); (go_wp2); (go_meet)
      case rel => exact ⟨_, (true), (by first | rfl | (simp; done) | (simp [*]; done)), H', ⟨by first | omega | exact Nat.le_refl _⟩, ⟨by (with_reducible repeat first | apply Kd.R_alloc | apply Kd.R_drewN | apply Kd.R_drew); exact Kd.R_mono HO252.out (fun _ hk => trivial)⟩, ⟨by (with_reducible repeat (first | apply Kd.S_alloc | apply Kd.S_drewN | apply Kd.S_drew)); exact HO257.out⟩, ⟨by (with_reducible repeat first | apply Kd.R_alloc | apply Kd.R_drewN | apply Kd.R_drew); exact HO245.out⟩, ⟨by (with_reducible repeat first | refine blk_drewN ?_ _ | refine blk_drew ?_ | refine blk_alloc ?_ _); exact BK246.out⟩, ⟨by repeat (first | (with_reducible first | exact HB.out | apply below_alloc | apply pw_below_drewN | apply below_drew1 | refine below_set ?_ GE246.out) | exact HB.out)⟩⟩
   ·(rw [if_neg c33] at H);(have c33b0 : (t254 == 0) = false := beq_eq_false_iff_ne.mpr c33);(have c33b1 : (t254 != 0) = true := bne_iff_ne.mpr c33);((first | rw [c33b0] | (simp only [i64_w, i32_w]; rw [c33b0]) | skip))
    as_aux_lemma =>
     ((have H' := Aside0.mk H);(clear H)); (go_wp2); (go_meet)
     case rel => exact ⟨_, (true), (by first | rfl | (simp; done) | (simp [*]; done)), H', ⟨by first | omega | exact Nat.le_refl _⟩, ⟨by (with_reducible repeat first | apply Kd.R_alloc | apply Kd.R_drewN | apply Kd.R_drew); exact Kd.R_mono HO252.out (fun _ hk => trivial)⟩, ⟨by (with_reducible repeat (first | apply Kd.S_alloc | apply Kd.S_drewN | apply Kd.S_drew)); exact HO257.out⟩, ⟨by (with_reducible repeat first | apply Kd.R_alloc | apply Kd.R_drewN | apply Kd.R_drew); exact HO245.out⟩, ⟨by (with_reducible repeat first | refine blk_drewN ?_ _ | refine blk_drew ?_ | refine blk_alloc ?_ _); exact BK246.out⟩, ⟨by repeat (first | (with_reducible first | exact HB.out | apply below_alloc | apply pw_below_drewN | apply below_drew1 | refine below_set ?_ GE246.out) | exact HB.out)⟩⟩
  case rest =>
   clear HC14
   try clear c1
   try clear c2
   try clear p2
   try clear c3
   try clear c4
   try clear c5
   try clear c7
   try clear c8
   try clear c10
   try clear c11
   try clear c12
   try clear c13
   try clear c14
   try clear c15
   try clear c33
   try clear c33b0
   try clear c33b1
   try clear c34
   try clear c34b0
   try clear c34b1
   try clear c35
   try clear c35b0
   try clear c35b1
   try clear hcz18_0
   try clear hcz18_1
   try clear hcz18_2
   try clear hcz18_3
   try clear hcz25_0
   try clear hcz25_1
   try clear hcz25_2
   try clear hcz25_3
   try clear hcz28_0
   try clear hcz28_1
   try clear hcz28_2
   try clear hcz28_3
   try clear hcz30_0
   try clear hcz30_1
   try clear hcz30_2
   try clear hcz30_3
   try clear hfz18_0
   try clear hfz18_1
   try clear hfz18_2
   try clear hfz18_3
   try clear hfz25_0
   try clear hfz25_1
   try clear hfz25_2
   try clear hfz25_3
   try clear hfz28_0
   try clear hfz28_1
   try clear hfz28_2
   try clear hfz28_3
   try clear hfz30_0
   try clear hfz30_1
   try clear hfz30_2
   try clear hfz30_3
   obtain ⟨kq, x74_13, rfl, HA, HJ13, HO_13, HO_16, HO_247003, BK246, HB⟩ := hcut
   cases kq with
   | zero => exact absurd HA.out (by simp [racewaylaw15_DecompBack.j0])
   | succ kj13 =>
    ((have H := HA.out);(clear HA);(simp only [racewaylaw15_DecompBack.j0] at H)); (by_cases c38 : x74_13 = true)
    ·(subst c38);(have H1 : (some false) = some r := by rw [if_pos rfl] at H; exact H);(clear H);(have H := H1);(clear H1);(exact absurd ((Option.some.inj H).trans hrT_.out) (by simp))
    ·(replace c38 := Bool.eq_false_iff.mpr c38);(subst c38);(have H1 : (racewaylaw15_DecompBack.l0 kj13 t250 t253 t255 0 0 t240 t241 t242 t243) = some r := by rw [if_neg (show ¬ (false = true) by decide)] at H; exact H);(clear H);(have H := H1);(clear H1);(have H' := Aside0.mk H);(clear H)
     (go_wp2); (go_loopg [20, 21] kj13 (fun kq v20 v21 w' => ∃ (x20_2 : Int) (x21_2 : Int), v20 = .int .i64 x20_2 ∧ v21 = .int .i64 x21_2 ∧ Aside0 (racewaylaw15_DecompBack.l0 kq t250 t253 t255 x20_2 x21_2 t240 t241 t242 t243 = some r) ∧ Aside0 (kq ≤ kj13) ∧ Aside0 (Kd.R (Kd.int .i64) 2 w' w.heap.size (fun _ => True) (.slice Ao26 t250.length co26) t250) ∧ Aside0 (Kd.S k36 36 w' w.heap.size (fun _ => True) (.slice Ao31 t255.length co31) t255) ∧ Aside0 (Kd.R k30 30 w' w.heap.size (fun _ => True) (.slice Ao19 t243.length co19) t243) ∧ Aside0 (w'.heap[gb246]? = some (.cells #[.int .i64 t240, .int .i64 t241, .int .i64 t242, (.slice Ao19 t243.length co19)] 26 (0, 0))) ∧ Aside0 (Below w.heap.size w w')))
     case atStart => exact ⟨(0), (0), (by first | rfl | (simp; done) | (simp [*]; done)), (by first | rfl | (simp; done) | (simp [*]; done)), H', ⟨Nat.le_refl _⟩, ⟨by (with_reducible repeat first | apply Kd.R_alloc | apply Kd.R_drewN | apply Kd.R_drew); exact HO_13.out⟩, ⟨by (with_reducible repeat (first | apply Kd.S_alloc | apply Kd.S_drewN | apply Kd.S_drew)); exact HO_16.out⟩, ⟨by (with_reducible repeat first | apply Kd.R_alloc | apply Kd.R_drewN | apply Kd.R_drew); exact HO_247003.out⟩, ⟨by (with_reducible repeat first | refine blk_drewN ?_ _ | refine blk_drew ?_ | refine blk_alloc ?_ _); exact BK246.out⟩, ⟨by repeat (first | (with_reducible first | exact HB.out | apply below_alloc | apply pw_below_drewN | apply below_drew1 | refine below_set ?_ GE246.out) | exact HB.out)⟩⟩
     case round =>
      clear H'
      try clear c1
      try clear c2
      try clear p2
      try clear c3
      try clear c4
      try clear c5
      try clear c7
      try clear c8
      try clear c10
      try clear c11
      try clear c12
      try clear c13
      try clear c14
      try clear c15
      try clear c33
      try clear c33b0
      try clear c33b1
      try clear c34
      try clear c34b0
      try clear c34b1
      try clear c35
      try clear c35b0
      try clear c35b1
      try clear c38
      try clear hcz18_0
      try clear hcz18_1
      try clear hcz18_2
      try clear hcz18_3
      try clear hcz25_0
      try clear hcz25_1
      try clear hcz25_2
      try clear hcz25_3
      try clear hcz28_0
      try clear hcz28_1
      try clear hcz28_2
      try clear hcz28_3
      try clear hcz30_0
      try clear hcz30_1
      try clear hcz30_2
      try clear hcz30_3
      try clear hfz18_0
      try clear hfz18_1
      try clear hfz18_2
      try clear hfz18_3
      try clear hfz25_0
      try clear hfz25_1
      try clear hfz25_2
      try clear hfz25_3
      try clear hfz28_0
      try clear hfz28_1
      try clear hfz28_2
      try clear hfz28_3
      try clear hfz30_0
      try clear hfz30_1
      try clear hfz30_2
      try clear hfz30_3
      try clear p2
      obtain ⟨x20_2, x21_2, rfl, rfl, HA, HK2, HO_13, HO_16, HO_247003, BK246, HB⟩ := hrel
      cases gk with
      | zero => exact absurd HA.out (by simp [racewaylaw15_DecompBack.l0])
      | succ k2 =>
       ((have H := HA.out);(clear HA);(simp only [racewaylaw15_DecompBack.l0] at H)); (by_cases c39 : x21_2 < (t250.length : Int))
       ·(rw [if_pos c39] at H);(have c39b0 : decide (x21_2 < (t250.length : Int)) = true := decide_eq_true c39);(clear c39)
        by_cases c40 : 0 ≤ x21_2
        ·(rw [if_pos c40] at H);(have c40b0 : decide (0 ≤ x21_2) = true := decide_eq_true c40);(clear c40)
         by_cases c41 : (rd t250 x21_2) > 0
         ·(rw [if_pos c41] at H);(have c41b0 : decide (0 < (rd t250 x21_2)) = true := decide_eq_true c41);(clear c41)
          as_aux_lemma =>
           ((have H' := Aside0.mk H);(clear H);(have p264 : 0 ≤ (x21_2 : Int) := of_decide_eq_true (by first | (with_reducible assumption) | assumption));(have q264 : x21_2 < (t250.length : Int) := of_decide_eq_true (by first | (with_reducible assumption) | assumption));(obtain ⟨ad264, e264, hx264_0⟩ := Kd.at_int (Kd.R_reads' HO_13.out).2.2 x21_2 p264 q264);(cases e264);(replace p264 := eq_true p264);(replace q264 := eq_true q264)); (go_wp2); (go_roundg k2)
           case measure => have := HJ13.out; have := HK2.out; omega
           case rel => exact ⟨(wrap64 (x20_2 + 1)), (wrap64 (x21_2 + 1)), (by first | rfl | (simp; done) | (simp [*]; done)), (by first | rfl | (simp; done) | (simp [*]; done)), H', ⟨by have := HJ13.out; have := HK2.out; omega⟩, ⟨by (with_reducible repeat first | apply Kd.R_alloc | apply Kd.R_drewN | apply Kd.R_drew); exact HO_13.out⟩, ⟨by (with_reducible repeat (first | apply Kd.S_alloc | apply Kd.S_drewN | apply Kd.S_drew)); exact HO_16.out⟩, ⟨by (with_reducible repeat first | apply Kd.R_alloc | apply Kd.R_drewN | apply Kd.R_drew); exact HO_247003.out⟩, ⟨by (with_reducible repeat first | refine blk_drewN ?_ _ | refine blk_drew ?_ | refine blk_alloc ?_ _); exact BK246.out⟩, ⟨by repeat (first | (with_reducible first | exact HB.out | apply below_alloc | apply pw_below_drewN | apply below_drew1 | refine below_set ?_ GE246.out) | exact HB.out)⟩⟩
         ·(rw [if_neg c41] at H);(have c41b0 : decide (0 < (rd t250 x21_2)) = false := decide_eq_false c41);(clear c41)
          as_aux_lemma =>
           ((have H' := Aside0.mk H);(clear H);(have p264 : 0 ≤ (x21_2 : Int) := of_decide_eq_true (by first | (with_reducible assumption) | assumption));(have q264 : x21_2 < (t250.length : Int) := of_decide_eq_true (by first | (with_reducible assumption) | assumption));(obtain ⟨ad264, e264, hx264_0⟩ := Kd.at_int (Kd.R_reads' HO_13.out).2.2 x21_2 p264 q264);(cases e264);(replace p264 := eq_true p264);(replace q264 := eq_true q264)); (go_wp2); (go_roundg k2)
           case measure => have := HJ13.out; have := HK2.out; omega
           case rel => exact ⟨(x20_2), (wrap64 (x21_2 + 1)), (by first | rfl | (simp; done) | (simp [*]; done)), (by first | rfl | (simp; done) | (simp [*]; done)), H', ⟨by have := HJ13.out; have := HK2.out; omega⟩, ⟨by (with_reducible repeat first | apply Kd.R_alloc | apply Kd.R_drewN | apply Kd.R_drew); exact HO_13.out⟩, ⟨by (with_reducible repeat (first | apply Kd.S_alloc | apply Kd.S_drewN | apply Kd.S_drew)); exact HO_16.out⟩, ⟨by (with_reducible repeat first | apply Kd.R_alloc | apply Kd.R_drewN | apply Kd.R_drew); exact HO_247003.out⟩, ⟨by (with_reducible repeat first | refine blk_drewN ?_ _ | refine blk_drew ?_ | refine blk_alloc ?_ _); exact BK246.out⟩, ⟨by repeat (first | (with_reducible first | exact HB.out | apply below_alloc | apply pw_below_drewN | apply below_drew1 | refine below_set ?_ GE246.out) | exact HB.out)⟩⟩
        ·(rw [if_neg c40] at H);(exact absurd H (by simp))
       ·(rw [if_neg c39] at H);(have c39b0 : decide (x21_2 < (t250.length : Int)) = false := decide_eq_false c39);(clear c39);(have H' := Aside0.mk H);(clear H)
        (go_wp2); (go_loopg [22, 23] k2 (fun kq v22 v23 w' => ∃ (x22_3 : Int) (x23_3 : Int), v22 = .int .i64 x22_3 ∧ v23 = .int .i64 x23_3 ∧ Aside0 (racewaylaw15_DecompBack.l1 kq t250 t253 t255 x20_2 x22_3 x23_3 t240 t241 t242 t243 = some r) ∧ Aside0 (kq ≤ k2) ∧ Aside0 (Kd.R (Kd.int .i64) 2 w' w.heap.size (fun _ => True) (.slice Ao26 t250.length co26) t250) ∧ Aside0 (Kd.S k36 36 w' w.heap.size (fun _ => True) (.slice Ao31 t255.length co31) t255) ∧ Aside0 (Kd.R k30 30 w' w.heap.size (fun _ => True) (.slice Ao19 t243.length co19) t243) ∧ Aside0 (w'.heap[gb246]? = some (.cells #[.int .i64 t240, .int .i64 t241, .int .i64 t242, (.slice Ao19 t243.length co19)] 26 (0, 0))) ∧ Aside0 (Below w.heap.size w w')))
        case atStart => exact ⟨(0), (0), (by first | rfl | (simp; done) | (simp [*]; done)), (by first | rfl | (simp; done) | (simp [*]; done)), H', ⟨Nat.le_refl _⟩, ⟨by (with_reducible repeat first | apply Kd.R_alloc | apply Kd.R_drewN | apply Kd.R_drew); exact HO_13.out⟩, ⟨by (with_reducible repeat (first | apply Kd.S_alloc | apply Kd.S_drewN | apply Kd.S_drew)); exact HO_16.out⟩, ⟨by (with_reducible repeat first | apply Kd.R_alloc | apply Kd.R_drewN | apply Kd.R_drew); exact HO_247003.out⟩, ⟨by (with_reducible repeat first | refine blk_drewN ?_ _ | refine blk_drew ?_ | refine blk_alloc ?_ _); exact BK246.out⟩, ⟨by repeat (first | (with_reducible first | exact HB.out | apply below_alloc | apply pw_below_drewN | apply below_drew1 | refine below_set ?_ GE246.out) | exact HB.out)⟩⟩
        case round =>
         clear H'
         try clear c1
         try clear c2
         try clear p2
         try clear q2
         try clear hx2
         try clear c3
         try clear c4
         try clear c5
         try clear p6
         try clear c7
         try clear c8
         try clear c10
         try clear c11
         try clear c12
         try clear c13
         try clear c14
         try clear c15
         try clear p26
         try clear q26
         try clear hx26
         try clear c33
         try clear c33b0
         try clear c33b1
         try clear c34
         try clear c34b0
         try clear c34b1
         try clear c35
         try clear c35b0
         try clear c35b1
         try clear c38
         try clear c39
         try clear c39b0
         try clear c40
         try clear c40b0
         try clear c41
         try clear c41b0
         try clear hcz18_0
         try clear hcz18_1
         try clear hcz18_2
         try clear hcz18_3
         try clear hcz25_0
         try clear hcz25_1
         try clear hcz25_2
         try clear hcz25_3
         try clear hcz28_0
         try clear hcz28_1
         try clear hcz28_2
         try clear hcz28_3
         try clear hcz30_0
         try clear hcz30_1
         try clear hcz30_2
         try clear hcz30_3
         try clear hfz18_0
         try clear hfz18_1
         try clear hfz18_2
         try clear hfz18_3
         try clear hfz25_0
         try clear hfz25_1
         try clear hfz25_2
         try clear hfz25_3
         try clear hfz28_0
         try clear hfz28_1
         try clear hfz28_2
         try clear hfz28_3
         try clear hfz30_0
         try clear hfz30_1
         try clear hfz30_2
         try clear hfz30_3
         try clear hx264_0
         try clear p2
         try clear p264
         try clear q264
         obtain ⟨x22_3, x23_3, rfl, rfl, HA, HK3, HO_13, HO_16, HO_247003, BK246, HB⟩ := hrel
         cases gk with
         | zero => exact absurd HA.out (by simp [racewaylaw15_DecompBack.l1])
         | succ k3 =>
          ((have H := HA.out);(clear HA);(simp only [racewaylaw15_DecompBack.l1] at H)); (by_cases c42 : x23_3 < (t255.length : Int))
          ·(rw [if_pos c42] at H);(have c42b0 : decide (x23_3 < (t255.length : Int)) = true := decide_eq_true c42);(clear c42);(have HC43 := Aside0.mk H);(clear H)
           (go_upto_region 21 with (fail)); (go_cut [107] (fun v107 wc => ∃ (kq : Nat) (x107_42 : Bool), v107 = .bool x107_42 ∧ Aside0 (racewaylaw15_DecompBack.j3 kq t250 t253 t255 x20_2 x22_3 x23_3 x107_42 t240 t241 t242 t243 = some r) ∧ Aside0 (kq ≤ k3) ∧ Aside0 (Kd.R (Kd.int .i64) 2 wc w.heap.size (fun _ => True) (.slice Ao26 t250.length co26) t250) ∧ Aside0 (Kd.S k36 36 wc w.heap.size (fun _ => True) (.slice Ao31 t255.length co31) t255) ∧ Aside0 (Kd.R k30 30 wc w.heap.size (fun _ => True) (.slice Ao19 t243.length co19) t243) ∧ Aside0 (wc.heap[gb246]? = some (.cells #[.int .i64 t240, .int .i64 t241, .int .i64 t242, (.slice Ao19 t243.length co19)] 26 (0, 0))) ∧ Aside0 (Below w.heap.size w wc)))
           case first =>
            ((have H := HC43.out);(clear HC43)); (by_cases c44 : 0 ≤ x23_3)
            ·(rw [if_pos c44] at H);(have c44b0 : decide (0 ≤ x23_3) = true := decide_eq_true c44);(clear c44);((first | rw [c44b0] | (simp only [i64_w, i32_w]; rw [c44b0]) | skip))
             by_cases c45 : ((rd_T36 t255 x23_3).f0) = 98
             ·(rw [if_pos c45] at H);(have c45b0 : (((rd_T36 t255 x23_3).f0) == 98) = true := beq_iff_eq.mpr c45);(have c45b1 : (((rd_T36 t255 x23_3).f0) != 98) = false := bne_eq_false_iff_eq.mpr c45);(clear c45)
              as_aux_lemma =>
               ((have H' := Aside0.mk H);(clear H);(have p265 : 0 ≤ (x23_3 : Int) := of_decide_eq_true (by first | (with_reducible assumption) | assumption));(have q265 : x23_3 < (t255.length : Int) := of_decide_eq_true (by first | (with_reducible assumption) | assumption));(obtain ⟨ad265, A265_1, c265_1, e265, hx265_0, hx265_1, hx265_2, hl265_1, hi265_1⟩ := at_T36 (Kd.S_reads' HO_16.out).2.2 x23_3 p265 q265);(cases e265);(obtain ⟨ce265, hce265, hMe265, hcc265⟩ := Kd.S_get HO_16.out z36 x23_3 p265 (by first | exact q265 | exact of_decide_eq_true (by first | (with_reducible assumption) | assumption) | (have e_ := (Kd.S_reads' HO_16.out).1; omega)));(obtain ⟨ve265_1, rfl, ge265_1⟩ := k36_openM hMe265);(have hv265_1 := hcc265 1 _ rfl);(rw [add_field _ _ 1 (by omega)] at hv265_1);(replace hv265_1 := Option.some.inj (hv265_1.symm.trans hx265_1));(rw [hv265_1] at ge265_1);(have HL265_1 := Aside0.mk (show Kd.R (Kd.int .i64) 3 _ _ _ _ ((rd_T36 t255 x23_3).f1) from ge265_1));(clear hv265_1 ge265_1);(clear hcc265 hce265);(have HR265_1 := Aside0.mk hi265_1);(have HC265_1 := Aside0.mk hl265_1);(clear hi265_1 hl265_1);(replace p265 := eq_true p265);(replace q265 := eq_true q265)); (go_wp2); (go_meet)
               case rel => exact ⟨_, (true), (by first | rfl | (simp; done) | (simp [*]; done)), H', ⟨by have := HJ13.out; have := HK2.out; have := HK3.out; first | omega | exact Nat.le_refl _⟩, ⟨by (with_reducible repeat first | apply Kd.R_alloc | apply Kd.R_drewN | apply Kd.R_drew); exact HO_13.out⟩, ⟨by (with_reducible repeat (first | apply Kd.S_alloc | apply Kd.S_drewN | apply Kd.S_drew)); exact HO_16.out⟩, ⟨by (with_reducible repeat first | apply Kd.R_alloc | apply Kd.R_drewN | apply Kd.R_drew); exact HO_247003.out⟩, ⟨by (with_reducible repeat first | refine blk_drewN ?_ _ | refine blk_drew ?_ | refine blk_alloc ?_ _); exact BK246.out⟩, ⟨by repeat (first | (with_reducible first | exact HB.out | apply below_alloc | apply pw_below_drewN | apply below_drew1 | refine below_set ?_ GE246.out) | exact HB.out)⟩⟩
             ·(rw [if_neg c45] at H);(have c45b0 : (((rd_T36 t255 x23_3).f0) == 98) = false := beq_eq_false_iff_ne.mpr c45);(have c45b1 : (((rd_T36 t255 x23_3).f0) != 98) = true := bne_iff_ne.mpr c45)
              as_aux_lemma =>
               ((have H' := Aside0.mk H);(clear H);(have p265 : 0 ≤ (x23_3 : Int) := of_decide_eq_true (by first | (with_reducible assumption) | assumption));(have q265 : x23_3 < (t255.length : Int) := of_decide_eq_true (by first | (with_reducible assumption) | assumption));(obtain ⟨ad265, A265_1, c265_1, e265, hx265_0, hx265_1, hx265_2, hl265_1, hi265_1⟩ := at_T36 (Kd.S_reads' HO_16.out).2.2 x23_3 p265 q265);(cases e265);(obtain ⟨ce265, hce265, hMe265, hcc265⟩ := Kd.S_get HO_16.out z36 x23_3 p265 (by first | exact q265 | exact of_decide_eq_true (by first | (with_reducible assumption) | assumption) | (have e_ := (Kd.S_reads' HO_16.out).1; omega)));(obtain ⟨ve265_1, rfl, ge265_1⟩ := k36_openM hMe265);(have hv265_1 := hcc265 1 _ rfl);(rw [add_field _ _ 1 (by omega)] at hv265_1);(replace hv265_1 := Option.some.inj (hv265_1.symm.trans hx265_1));(rw [hv265_1] at ge265_1);(have HL265_1 := Aside0.mk (show Kd.R (Kd.int .i64) 3 _ _ _ _ ((rd_T36 t255 x23_3).f1) from ge265_1));(clear hv265_1 ge265_1);(clear hcc265 hce265);(have HR265_1 := Aside0.mk hi265_1);(have HC265_1 := Aside0.mk hl265_1);(clear hi265_1 hl265_1);(replace p265 := eq_true p265);(replace q265 := eq_true q265);(have p266 : 0 ≤ (x23_3 : Int) := of_decide_eq_true (by first | (with_reducible assumption) | assumption));(have q266 : x23_3 < (t255.length : Int) := of_decide_eq_true (by first | (with_reducible assumption) | assumption));(obtain ⟨ad266, A266_1, c266_1, e266, hx266_0, hx266_1, hx266_2, hl266_1, hi266_1⟩ := at_T36 (Kd.S_reads' HO_16.out).2.2 x23_3 p266 q266);(obtain rfl : ad265 = ad266 := (by injection e266));(obtain ⟨ce266, hce266, hMe266, hcc266⟩ := Kd.S_get HO_16.out z36 x23_3 p266 (by first | exact q266 | exact of_decide_eq_true (by first | (with_reducible assumption) | assumption) | (have e_ := (Kd.S_reads' HO_16.out).1; omega)));(obtain ⟨ve266_1, rfl, ge266_1⟩ := k36_openM hMe266);(have hv266_1 := hcc266 1 _ rfl);(rw [add_field _ _ 1 (by omega)] at hv266_1);(replace hv266_1 := Option.some.inj (hv266_1.symm.trans hx266_1));(rw [hv266_1] at ge266_1);(have HL266_1 := Aside0.mk (show Kd.R (Kd.int .i64) 3 _ _ _ _ ((rd_T36 t255 x23_3).f1) from ge266_1));(clear hv266_1 ge266_1);(clear hcc266 hce266);(have HR266_1 := Aside0.mk hi266_1);(have HC266_1 := Aside0.mk hl266_1);(clear hi266_1 hl266_1);(replace p266 := eq_true p266);(replace q266 := eq_true q266);(have ea_ := Option.some.inj (hx265_1.symm.trans hx266_1));(injection ea_ with ea_ en_ ec_);(subst ea_);(subst ec_);(clear en_)); (go_wp2); (go_meet)
               case rel => exact ⟨_, (decide (((rd_T36 t255 x23_3).f2) < 1)), (by first | rfl | (simp; done) | (simp [*]; done)), H', ⟨by have := HJ13.out; have := HK2.out; have := HK3.out; first | omega | exact Nat.le_refl _⟩, ⟨by (with_reducible repeat first | apply Kd.R_alloc | apply Kd.R_drewN | apply Kd.R_drew); exact HO_13.out⟩, ⟨by (with_reducible repeat (first | apply Kd.S_alloc | apply Kd.S_drewN | apply Kd.S_drew)); exact HO_16.out⟩, ⟨by (with_reducible repeat first | apply Kd.R_alloc | apply Kd.R_drewN | apply Kd.R_drew); exact HO_247003.out⟩, ⟨by (with_reducible repeat first | refine blk_drewN ?_ _ | refine blk_drew ?_ | refine blk_alloc ?_ _); exact BK246.out⟩, ⟨by repeat (first | (with_reducible first | exact HB.out | apply below_alloc | apply pw_below_drewN | apply below_drew1 | refine below_set ?_ GE246.out) | exact HB.out)⟩⟩
            ·(rw [if_neg c44] at H);(exact absurd H (by simp))
           case rest =>
            clear HC43
            try clear c1
            try clear c2
            try clear p2
            try clear q2
            try clear hx2
            try clear c3
            try clear c4
            try clear c5
            try clear p6
            try clear c7
            try clear c8
            try clear c10
            try clear c11
            try clear c12
            try clear c13
            try clear c14
            try clear c15
            try clear c26
            try clear p26
            try clear q26
            try clear hx26
            try clear c33
            try clear c33b0
            try clear c33b1
            try clear c34
            try clear c34b0
            try clear c34b1
            try clear c35
            try clear c35b0
            try clear c35b1
            try clear c38
            try clear c39
            try clear c39b0
            try clear c40
            try clear c40b0
            try clear c41
            try clear c41b0
            try clear c42
            try clear c42b0
            try clear c44
            try clear c44b0
            try clear c45
            try clear c45b0
            try clear c45b1
            try clear hcz18_0
            try clear hcz18_1
            try clear hcz18_2
            try clear hcz18_3
            try clear hcz25_0
            try clear hcz25_1
            try clear hcz25_2
            try clear hcz25_3
            try clear hcz28_0
            try clear hcz28_1
            try clear hcz28_2
            try clear hcz28_3
            try clear hcz30_0
            try clear hcz30_1
            try clear hcz30_2
            try clear hcz30_3
            try clear hfz18_0
            try clear hfz18_1
            try clear hfz18_2
            try clear hfz18_3
            try clear hfz25_0
            try clear hfz25_1
            try clear hfz25_2
            try clear hfz25_3
            try clear hfz28_0
            try clear hfz28_1
            try clear hfz28_2
            try clear hfz28_3
            try clear hfz30_0
            try clear hfz30_1
            try clear hfz30_2
            try clear hfz30_3
            try clear hx264_0
            try clear hx265_0
            try clear hx265_1
            try clear hx265_2
            try clear hx266_0
            try clear hx266_1
            try clear hx266_2
            try clear p2
            try clear p26
            try clear p264
            try clear p265
            try clear p266
            try clear p6
            try clear q2
            try clear q26
            try clear q264
            try clear q265
            try clear q266
            obtain ⟨kq, x107_42, rfl, HA, HJ42, HO_13, HO_16, HO_247003, BK246, HB⟩ := hcut
            cases kq with
            | zero => exact absurd HA.out (by simp [racewaylaw15_DecompBack.j3])
            | succ kj42 =>
             ((have H := HA.out);(clear HA);(simp only [racewaylaw15_DecompBack.j3] at H)); (by_cases c46 : x107_42 = true)
             ·(subst c46);(have H1 : (some false) = some r := by rw [if_pos rfl] at H; exact H);(clear H);(have H := H1);(clear H1);(exact absurd ((Option.some.inj H).trans hrT_.out) (by simp))
             ·(replace c46 := Bool.eq_false_iff.mpr c46);(subst c46);(have H1 : (if 0 ≤ x23_3 then (if x23_3 < (t255.length : Int) then (if ((rd_T36 t255 x23_3).f0) = 112 then (racewaylaw15_DecompBack.l1 kj42 t250 t253 t255 x20_2 (wrap64 (x22_3 + ((rd_T36 t255 x23_3).f2))) (wrap64 (x23_3 + 1)) t240 t241 t242 t243) else (racewaylaw15_DecompBack.l1 kj42 t250 t253 t255 x20_2 x22_3 (wrap64 (x23_3 + 1)) t240 t241 t242 t243)) else (none)) else (none)) = some r := by rw [if_neg (show ¬ (false = true) by decide)] at H; exact H);(clear H);(have H := H1);(clear H1)
              by_cases c47 : 0 ≤ x23_3
              ·(rw [if_pos c47] at H);(have c47b0 : decide (0 ≤ x23_3) = true := decide_eq_true c47);(clear c47)
               by_cases c48 : x23_3 < (t255.length : Int)
               ·(rw [if_pos c48] at H);(have c48b0 : decide (x23_3 < (t255.length : Int)) = true := decide_eq_true c48);(clear c48)
                by_cases c49 : ((rd_T36 t255 x23_3).f0) = 112
                ·(rw [if_pos c49] at H);(have c49b0 : (((rd_T36 t255 x23_3).f0) == 112) = true := beq_iff_eq.mpr c49);(have c49b1 : (((rd_T36 t255 x23_3).f0) != 112) = false := bne_eq_false_iff_eq.mpr c49);(clear c49)
                 as_aux_lemma =>
                  ((have H' := Aside0.mk H);(clear H);(have p267 : 0 ≤ (x23_3 : Int) := of_decide_eq_true (by first | (with_reducible assumption) | assumption));(have q267 : x23_3 < (t255.length : Int) := of_decide_eq_true (by first | (with_reducible assumption) | assumption));(obtain ⟨ad267, A267_1, c267_1, e267, hx267_0, hx267_1, hx267_2, hl267_1, hi267_1⟩ := at_T36 (Kd.S_reads' HO_16.out).2.2 x23_3 p267 q267);(cases e267);(obtain ⟨ce267, hce267, hMe267, hcc267⟩ := Kd.S_get HO_16.out z36 x23_3 p267 (by first | exact q267 | exact of_decide_eq_true (by first | (with_reducible assumption) | assumption) | (have e_ := (Kd.S_reads' HO_16.out).1; omega)));(obtain ⟨ve267_1, rfl, ge267_1⟩ := k36_openM hMe267);(have hv267_1 := hcc267 1 _ rfl);(rw [add_field _ _ 1 (by omega)] at hv267_1);(replace hv267_1 := Option.some.inj (hv267_1.symm.trans hx267_1));(rw [hv267_1] at ge267_1);(have HL267_1 := Aside0.mk (show Kd.R (Kd.int .i64) 3 _ _ _ _ ((rd_T36 t255 x23_3).f1) from ge267_1));(clear hv267_1 ge267_1);(clear hcc267 hce267);(have HR267_1 := Aside0.mk hi267_1);(have HC267_1 := Aside0.mk hl267_1);(clear hi267_1 hl267_1);(replace p267 := eq_true p267);(replace q267 := eq_true q267);(have p268 : 0 ≤ (x23_3 : Int) := of_decide_eq_true (by first | (with_reducible assumption) | assumption));(have q268 : x23_3 < (t255.length : Int) := of_decide_eq_true (by first | (with_reducible assumption) | assumption));(obtain ⟨ad268, A268_1, c268_1, e268, hx268_0, hx268_1, hx268_2, hl268_1, hi268_1⟩ := at_T36 (Kd.S_reads' HO_16.out).2.2 x23_3 p268 q268);(obtain rfl : ad267 = ad268 := (by injection e268));(obtain ⟨ce268, hce268, hMe268, hcc268⟩ := Kd.S_get HO_16.out z36 x23_3 p268 (by first | exact q268 | exact of_decide_eq_true (by first | (with_reducible assumption) | assumption) | (have e_ := (Kd.S_reads' HO_16.out).1; omega)));(obtain ⟨ve268_1, rfl, ge268_1⟩ := k36_openM hMe268);(have hv268_1 := hcc268 1 _ rfl);(rw [add_field _ _ 1 (by omega)] at hv268_1);(replace hv268_1 := Option.some.inj (hv268_1.symm.trans hx268_1));(rw [hv268_1] at ge268_1);(have HL268_1 := Aside0.mk (show Kd.R (Kd.int .i64) 3 _ _ _ _ ((rd_T36 t255 x23_3).f1) from ge268_1));(clear hv268_1 ge268_1);(clear hcc268 hce268);(have HR268_1 := Aside0.mk hi268_1);(have HC268_1 := Aside0.mk hl268_1);(clear hi268_1 hl268_1);(replace p268 := eq_true p268);(replace q268 := eq_true q268);(have ea_ := Option.some.inj (hx267_1.symm.trans hx268_1));(injection ea_ with ea_ en_ ec_);(subst ea_);(subst ec_);(clear en_)); (go_wp2); (go_roundg kj42)
                  case measure => have := HJ13.out; have := HK2.out; have := HK3.out; have := HJ42.out; omega
                  case rel => exact ⟨(wrap64 (x22_3 + ((rd_T36 t255 x23_3).f2))), (wrap64 (x23_3 + 1)), (by first | rfl | (simp; done) | (simp [*]; done)), (by first | rfl | (simp; done) | (simp [*]; done)), H', ⟨by have := HJ13.out; have := HK2.out; have := HK3.out; have := HJ42.out; omega⟩, ⟨by (with_reducible repeat first | apply Kd.R_alloc | apply Kd.R_drewN | apply Kd.R_drew); exact HO_13.out⟩, ⟨by (with_reducible repeat (first | apply Kd.S_alloc | apply Kd.S_drewN | apply Kd.S_drew)); exact HO_16.out⟩, ⟨by (with_reducible repeat first | apply Kd.R_alloc | apply Kd.R_drewN | apply Kd.R_drew); exact HO_247003.out⟩, ⟨by (with_reducible repeat first | refine blk_drewN ?_ _ | refine blk_drew ?_ | refine blk_alloc ?_ _); exact BK246.out⟩, ⟨by repeat (first | (with_reducible first | exact HB.out | apply below_alloc | apply pw_below_drewN | apply below_drew1 | refine below_set ?_ GE246.out) | exact HB.out)⟩⟩
                ·(rw [if_neg c49] at H);(have c49b0 : (((rd_T36 t255 x23_3).f0) == 112) = false := beq_eq_false_iff_ne.mpr c49);(have c49b1 : (((rd_T36 t255 x23_3).f0) != 112) = true := bne_iff_ne.mpr c49)
                 as_aux_lemma =>
                  ((have H' := Aside0.mk H);(clear H);(have p267 : 0 ≤ (x23_3 : Int) := of_decide_eq_true (by first | (with_reducible assumption) | assumption));(have q267 : x23_3 < (t255.length : Int) := of_decide_eq_true (by first | (with_reducible assumption) | assumption));(obtain ⟨ad267, A267_1, c267_1, e267, hx267_0, hx267_1, hx267_2, hl267_1, hi267_1⟩ := at_T36 (Kd.S_reads' HO_16.out).2.2 x23_3 p267 q267);(cases e267);(obtain ⟨ce267, hce267, hMe267, hcc267⟩ := Kd.S_get HO_16.out z36 x23_3 p267 (by first | exact q267 | exact of_decide_eq_true (by first | (with_reducible assumption) | assumption) | (have e_ := (Kd.S_reads' HO_16.out).1; omega)));(obtain ⟨ve267_1, rfl, ge267_1⟩ := k36_openM hMe267);(have hv267_1 := hcc267 1 _ rfl);(rw [add_field _ _ 1 (by omega)] at hv267_1);(replace hv267_1 := Option.some.inj (hv267_1.symm.trans hx267_1));(rw [hv267_1] at ge267_1);(have HL267_1 := Aside0.mk (show Kd.R (Kd.int .i64) 3 _ _ _ _ ((rd_T36 t255 x23_3).f1) from ge267_1));(clear hv267_1 ge267_1);(clear hcc267 hce267);(have HR267_1 := Aside0.mk hi267_1);(have HC267_1 := Aside0.mk hl267_1);(clear hi267_1 hl267_1);(replace p267 := eq_true p267);(replace q267 := eq_true q267)); (go_wp2); (go_roundg kj42)
                  case measure => have := HJ13.out; have := HK2.out; have := HK3.out; have := HJ42.out; omega
                  case rel => exact ⟨(x22_3), (wrap64 (x23_3 + 1)), (by first | rfl | (simp; done) | (simp [*]; done)), (by first | rfl | (simp; done) | (simp [*]; done)), H', ⟨by have := HJ13.out; have := HK2.out; have := HK3.out; have := HJ42.out; omega⟩, ⟨by (with_reducible repeat first | apply Kd.R_alloc | apply Kd.R_drewN | apply Kd.R_drew); exact HO_13.out⟩, ⟨by (with_reducible repeat (first | apply Kd.S_alloc | apply Kd.S_drewN | apply Kd.S_drew)); exact HO_16.out⟩, ⟨by (with_reducible repeat first | apply Kd.R_alloc | apply Kd.R_drewN | apply Kd.R_drew); exact HO_247003.out⟩, ⟨by (with_reducible repeat first | refine blk_drewN ?_ _ | refine blk_drew ?_ | refine blk_alloc ?_ _); exact BK246.out⟩, ⟨by repeat (first | (with_reducible first | exact HB.out | apply below_alloc | apply pw_below_drewN | apply below_drew1 | refine below_set ?_ GE246.out) | exact HB.out)⟩⟩
               ·(rw [if_neg c48] at H);(exact absurd H (by simp))
              ·(rw [if_neg c47] at H);(exact absurd H (by simp))
          ·(rw [if_neg c42] at H);(have c42b0 : decide (x23_3 < (t255.length : Int)) = false := decide_eq_false c42);(clear c42);(replace H := Option.bind_eq_some_iff.mp H);(obtain ⟨⟨t270, t273⟩, A500, H⟩ := H);(replace H : (racewaylaw15_DecompBack.l2 k3 t253 t255 x20_2 x22_3 t270 t273 0) = some r := H);(have A50 := Aside0.mk A500);(clear A500);(have H' := Aside0.mk H);(clear H);(have hcz51_0 : wr.cell? ⟨gb246, 0, none⟩ = some (.int .i64 t240) := (blk_cell BK246.out 0).trans rfl);(have hcz51_1 : wr.cell? ⟨gb246, 1, none⟩ = some (.int .i64 t241) := (blk_cell BK246.out 1).trans rfl);(have hcz51_2 : wr.cell? ⟨gb246, 2, none⟩ = some (.int .i64 t242) := (blk_cell BK246.out 2).trans rfl);(have hcz51_3 : wr.cell? ⟨gb246, 3, none⟩ = some (.slice Ao19 t243.length co19) := (blk_cell BK246.out 3).trans rfl);(have hfz51_0 := blk_frozen BK246.out 0);(have hfz51_1 := blk_frozen BK246.out 1);(have hfz51_2 := blk_frozen BK246.out 2);(have hfz51_3 := blk_frozen BK246.out 3)
           go_wp2_with (first | ((with_reducible refine gate_dst (N := 24) rfl ?_); (try (refine gate_guard (by rfl) ?_; dsimp only)); refine box_event ?hg (N := 24) ?hd (cs := #[.int .i64 0, .int .i64 0, .int .i64 0, .slice none 0 0]) (t := 26) ?hr ?_; (case hd => rfl); (case hg => rfl); (case hr => first | (go_simp; done) | (go_simp; rfl)); intro gb269 hg w52 hbox hb; have n0_ := Aside0.mk (Kd.R_below (by (with_reducible repeat first | apply Kd.R_alloc | apply Kd.R_drewN | apply Kd.R_drew); exact HO_13.out) hb); have n1_ := Aside0.mk (Kd.S_below (by (with_reducible repeat (first | apply Kd.S_alloc | apply Kd.S_drewN | apply Kd.S_drew)); exact HO_16.out) hb); have n2_ := Aside0.mk (Kd.R_below (by (with_reducible repeat first | apply Kd.R_alloc | apply Kd.R_drewN | apply Kd.R_drew); exact HO_247003.out) hb); have n3_ := Aside0.mk (blk_below (g := gb246) (o := .cells #[.int .i64 t240, .int .i64 t241, .int .i64 t242, .slice Ao19 t243.length co19] 26 (0, 0)) (by (with_reducible repeat first | refine blk_drewN ?_ _ | refine blk_drew ?_ | refine blk_alloc ?_ _); exact BK246.out) hb); have n4_ := Aside0.mk (below_step (by repeat (first | (with_reducible first | exact HB.out | apply below_alloc | apply pw_below_drewN | apply below_drew1 | refine below_set ?_ GE246.out) | exact HB.out)) hb); have n5_ := Aside0.mk (hbox); have n6_ := Aside0.mk ((by rw [hg]; exact (below_size (by repeat (first | (with_reducible first | exact HB.out | apply below_alloc | apply pw_below_drewN | apply below_drew1 | refine below_set ?_ GE246.out) | exact HB.out))) : w.heap.size ≤ gb269)); have n7_ := Aside0.mk ((by rw [hg]; exact (below_size (by repeat (first | (with_reducible first | exact HB.out | apply below_alloc | apply pw_below_drewN | apply below_drew1 | refine below_set ?_ GE246.out) | exact HB.out))) : w.heap.size ≤ gb269)); have n8_ := Aside0.mk ((by rw [hg]; exact Nat.ne_of_lt (blk_lt (g := gb246) (o := .cells #[.int .i64 t240, .int .i64 t241, .int .i64 t242, .slice Ao19 t243.length co19] 26 (0, 0)) (by (with_reducible repeat first | refine blk_drewN ?_ _ | refine blk_drew ?_ | refine blk_alloc ?_ _); exact BK246.out)) : gb246 ≠ gb269)); have n9_ := Aside0.mk ((by rw [hg]; exact Nat.ne_of_gt (blk_lt (g := gb246) (o := .cells #[.int .i64 t240, .int .i64 t241, .int .i64 t242, .slice Ao19 t243.length co19] 26 (0, 0)) (by (with_reducible repeat first | refine blk_drewN ?_ _ | refine blk_drew ?_ | refine blk_alloc ?_ _); exact BK246.out)) : gb269 ≠ gb246)); clear HO_13; clear HO_16; clear HO_247003; clear BK246; clear HB; have HO_13 := n0_; have HO_16 := n1_; have HO_247003 := n2_; have BK246 := n3_; have HB := n4_; have BK269 := n5_; have GW269 := n6_; have GE269 := n7_; have NB246_269 := n8_; have NB269_246 := n9_; clear n0_ n1_ n2_ n3_ n4_ n5_ n6_ n7_ n8_ n9_; clear hb hbox hg; have hnb53 := NB269_246.out; have hnc53 := NB246_269.out; have hcz54_0 : w52.cell? ⟨gb269, 0, none⟩ = some (.int .i64 0) := (blk_cell BK269.out 0).trans rfl; have hcz54_1 : w52.cell? ⟨gb269, 1, none⟩ = some (.int .i64 0) := (blk_cell BK269.out 1).trans rfl; have hcz54_2 : w52.cell? ⟨gb269, 2, none⟩ = some (.int .i64 0) := (blk_cell BK269.out 2).trans rfl; have hcz54_3 : w52.cell? ⟨gb269, 3, none⟩ = some (.slice none 0 0) := (blk_cell BK269.out 3).trans rfl; have hfz54_0 := blk_frozen BK269.out 0; have hfz54_1 := blk_frozen BK269.out 1; have hfz54_2 := blk_frozen BK269.out 2; have hfz54_3 := blk_frozen BK269.out 3) | ((with_reducible refine gate_callee (f := 10) rfl ?_); refine goesL_ (some 133) rfl rfl Try.func10 (by kernel_rfl) rfl #[.agg #[.int .i64 t240, .int .i64 t242, .int .i64 t241, .slice Ao19 t243.length co19], .slice Ao26 t250.length co26] rfl (by (try simp only [List.map_toArray, List.map_cons, List.map_nil]); first | done | rfl | (simp only [List.length_drop, List.length_take]; rfl)) ?_; (with_reducible refine (decomp_Split.calls k3 t240 t242 t241 _ _ t243 _ _ t250 t270 t273 _ ?side1 ?side2 ?side3 ?side4 A50.out).mono ?_); (case side1 => refine (Kd.R_reads' (e := 30) (base := w.heap.size) (ok := fun k_ => True) (n := t243.length) (c := co19) ?_).2.2; exact (by (with_reducible repeat first | apply Kd.R_alloc | apply Kd.R_drewN | apply Kd.R_drew); exact (Kd.R_mono (Kd.R_far (p := ⟨gb269, 3, none⟩) (Kd.R_far (p := ⟨gb269, 2, none⟩) (Kd.R_far (p := ⟨gb269, 1, none⟩) (Kd.R_far (p := ⟨gb269, 0, none⟩) (Kd.R_types HO_247003.out BK269.out (by decide)) (fun _ hk => hk.2) (.int .i64 t240)) (fun _ hk => hk.2) (.int .i64 t242)) (fun _ hk => hk.2) (.int .i64 t241)) (fun _ hk => hk.2) (.slice Ao19 t243.length co19)) (fun _ h_ => h_.1)))); (case side2 => exact (Kd.R_reads' HO_247003.out).2.1); (case side3 => refine (Kd.R_reads' (e := 2) (base := w.heap.size) (ok := fun k_ => True) (n := t250.length) (c := co26) ?_).2.2; exact (by (with_reducible repeat first | apply Kd.R_alloc | apply Kd.R_drewN | apply Kd.R_drew); exact (Kd.R_mono (Kd.R_far (p := ⟨gb269, 3, none⟩) (Kd.R_far (p := ⟨gb269, 2, none⟩) (Kd.R_far (p := ⟨gb269, 1, none⟩) (Kd.R_far (p := ⟨gb269, 0, none⟩) (Kd.R_types HO_13.out BK269.out (by decide)) (fun _ hk => hk.2) (.int .i64 t240)) (fun _ hk => hk.2) (.int .i64 t242)) (fun _ hk => hk.2) (.int .i64 t241)) (fun _ hk => hk.2) (.slice Ao19 t243.length co19)) (fun _ h_ => h_.1)))); (case side4 => exact (Kd.R_reads' HO_13.out).2.1); rintro e w55 ⟨v271, rfl, ho0, hb⟩; refine ⟨_, rfl, ?_⟩; have n0_ := Aside0.mk (Kd.R_below (by (with_reducible repeat first | apply Kd.R_alloc | apply Kd.R_drewN | apply Kd.R_drew); exact (Kd.R_mono (Kd.R_far (p := ⟨gb269, 3, none⟩) (Kd.R_far (p := ⟨gb269, 2, none⟩) (Kd.R_far (p := ⟨gb269, 1, none⟩) (Kd.R_far (p := ⟨gb269, 0, none⟩) (Kd.R_types HO_13.out BK269.out (by decide)) (fun _ hk => hk.2) (.int .i64 t240)) (fun _ hk => hk.2) (.int .i64 t242)) (fun _ hk => hk.2) (.int .i64 t241)) (fun _ hk => hk.2) (.slice Ao19 t243.length co19)) (fun _ h_ => h_.1))) hb); have n1_ := Aside0.mk (Kd.S_elder' (by (with_reducible repeat (first | apply Kd.S_alloc | apply Kd.S_drewN | apply Kd.S_drew)); exact (Kd.S_mono (Kd.S_far (p := ⟨gb269, 3, none⟩) (Kd.S_far (p := ⟨gb269, 2, none⟩) (Kd.S_far (p := ⟨gb269, 1, none⟩) (Kd.S_far (p := ⟨gb269, 0, none⟩) (Kd.S_types HO_16.out BK269.out (by decide)) (fun _ hk => hk.2) (.int .i64 t240)) (fun _ hk => hk.2) (.int .i64 t242)) (fun _ hk => hk.2) (.int .i64 t241)) (fun _ hk => hk.2) (.slice Ao19 t243.length co19)) (fun _ h_ => h_.1))) (Kd.S_base ho0) hb); have n2_ := Aside0.mk (Kd.R_below (by (with_reducible repeat first | apply Kd.R_alloc | apply Kd.R_drewN | apply Kd.R_drew); exact (Kd.R_mono (Kd.R_far (p := ⟨gb269, 3, none⟩) (Kd.R_far (p := ⟨gb269, 2, none⟩) (Kd.R_far (p := ⟨gb269, 1, none⟩) (Kd.R_far (p := ⟨gb269, 0, none⟩) (Kd.R_types HO_247003.out BK269.out (by decide)) (fun _ hk => hk.2) (.int .i64 t240)) (fun _ hk => hk.2) (.int .i64 t242)) (fun _ hk => hk.2) (.int .i64 t241)) (fun _ hk => hk.2) (.slice Ao19 t243.length co19)) (fun _ h_ => h_.1))) hb); have n3_ := Aside0.mk (Kd.S_lower (Kd.S_new' ho0 (Kd.S_lt (by (with_reducible repeat (first | apply Kd.S_alloc | apply Kd.S_drewN | apply Kd.S_drew)); exact (Kd.S_mono (Kd.S_far (p := ⟨gb269, 3, none⟩) (Kd.S_far (p := ⟨gb269, 2, none⟩) (Kd.S_far (p := ⟨gb269, 1, none⟩) (Kd.S_far (p := ⟨gb269, 0, none⟩) (Kd.S_types HO_16.out BK269.out (by decide)) (fun _ hk => hk.2) (.int .i64 t240)) (fun _ hk => hk.2) (.int .i64 t242)) (fun _ hk => hk.2) (.int .i64 t241)) (fun _ hk => hk.2) (.slice Ao19 t243.length co19)) (fun _ h_ => h_.1))))) (below_size (by repeat (first | (with_reducible first | exact HB.out | apply below_alloc | apply pw_below_drewN | apply below_drew1 | refine below_set ?_ GE246.out | refine below_set ?_ GE269.out) | exact HB.out)))); have n4_ := Aside0.mk (blk_below (g := gb246) (o := .cells #[.int .i64 t240, .int .i64 t241, .int .i64 t242, .slice Ao19 t243.length co19] 26 (0, 0)) (by (with_reducible repeat first | refine blk_drewN ?_ _ | refine blk_drew ?_ | refine blk_alloc ?_ _); refine blk_far ?_ NB246_269.out _; (with_reducible repeat first | refine blk_drewN ?_ _ | refine blk_drew ?_ | refine blk_alloc ?_ _); refine blk_far ?_ NB246_269.out _; (with_reducible repeat first | refine blk_drewN ?_ _ | refine blk_drew ?_ | refine blk_alloc ?_ _); refine blk_far ?_ NB246_269.out _; (with_reducible repeat first | refine blk_drewN ?_ _ | refine blk_drew ?_ | refine blk_alloc ?_ _); refine blk_far ?_ NB246_269.out _; (with_reducible repeat first | refine blk_drewN ?_ _ | refine blk_drew ?_ | refine blk_alloc ?_ _); exact BK246.out) hb); have n5_ := Aside0.mk (blk_below (g := gb269) (o := .cells #[.int .i64 t240, .int .i64 t242, .int .i64 t241, .slice Ao19 t243.length co19] 26 (0, 0)) (by (with_reducible repeat first | refine blk_drewN ?_ _ | refine blk_drew ?_ | refine blk_alloc ?_ _); refine blk_put (cs := #[.int .i64 t240, .int .i64 t242, .int .i64 t241, .slice none 0 0]) ?_ 3 _ rfl; (with_reducible repeat first | refine blk_drewN ?_ _ | refine blk_drew ?_ | refine blk_alloc ?_ _); refine blk_put (cs := #[.int .i64 t240, .int .i64 t242, .int .i64 0, .slice none 0 0]) ?_ 2 _ rfl; (with_reducible repeat first | refine blk_drewN ?_ _ | refine blk_drew ?_ | refine blk_alloc ?_ _); refine blk_put (cs := #[.int .i64 t240, .int .i64 0, .int .i64 0, .slice none 0 0]) ?_ 1 _ rfl; (with_reducible repeat first | refine blk_drewN ?_ _ | refine blk_drew ?_ | refine blk_alloc ?_ _); refine blk_put (cs := #[.int .i64 0, .int .i64 0, .int .i64 0, .slice none 0 0]) ?_ 0 _ rfl; (with_reducible repeat first | refine blk_drewN ?_ _ | refine blk_drew ?_ | refine blk_alloc ?_ _); exact BK269.out) hb); have n6_ := Aside0.mk (below_step (by repeat (first | (with_reducible first | exact HB.out | apply below_alloc | apply pw_below_drewN | apply below_drew1 | refine below_set ?_ GE246.out | refine below_set ?_ GE269.out) | exact HB.out)) hb); clear HO_13; clear HO_16; clear HO_247003; clear BK246; clear BK269; clear HB; have HO_13 := n0_; have HO_16 := n1_; have HO_247003 := n2_; have HO272 := n3_; have BK246 := n4_; have BK269 := n5_; have HB := n6_; clear n0_ n1_ n2_ n3_ n4_ n5_ n6_; (try clear hb); (try clear hb2); (try clear hk); (try clear hi); (try clear ho0)))
           go_loopg [27] k3 (fun kq v27 w' => ∃ (x27_4 : Int), v27 = .int .i64 x27_4 ∧ Aside0 (racewaylaw15_DecompBack.l2 kq t253 t255 x20_2 x22_3 t270 t273 x27_4 = some r) ∧ Aside0 (kq ≤ k3) ∧ Aside0 (Kd.S k36 36 w' w.heap.size (fun k_ => some k_ ≠ (v271 : Value).ownBlock) (.slice Ao31 t255.length co31) t255) ∧ Aside0 (Kd.S k36 36 w' w.heap.size (fun k_ => some k_ ≠ ((.slice Ao31 t255.length co31) : Value).ownBlock) v271 t270) ∧ Aside0 (Kd.R k30 30 w' w.heap.size (fun _ => True) (.slice Ao19 t243.length co19) t243) ∧ Aside0 (Kd.R k30 30 w' w.heap.size (fun _ => True) (.slice Ao19 t243.length co19) t243) ∧ Aside0 (w'.heap[gb246]? = some (.cells #[.int .i64 t240, .int .i64 t241, .int .i64 t242, (.slice Ao19 t243.length co19)] 26 (0, 0))) ∧ Aside0 (w'.heap[gb269]? = some (.cells #[.int .i64 t240, .int .i64 t242, .int .i64 t241, (.slice Ao19 t243.length co19)] 26 (0, 0))) ∧ Aside0 (Below w.heap.size w w'))
           case atStart => exact ⟨(0), (by first | rfl | (simp; done) | (simp [*]; done)), H', ⟨Nat.le_refl _⟩, ⟨by (with_reducible repeat (first | apply Kd.S_alloc | apply Kd.S_drewN | apply Kd.S_drew)); exact Kd.S_mono HO_16.out (fun _ hk => hk.2)⟩, ⟨by (with_reducible repeat (first | apply Kd.S_alloc | apply Kd.S_drewN | apply Kd.S_drew)); exact Kd.S_mono HO272.out (fun _ hk => hk.2)⟩, ⟨by (with_reducible repeat first | apply Kd.R_alloc | apply Kd.R_drewN | apply Kd.R_drew); exact HO_247003.out⟩, ⟨by (with_reducible repeat first | apply Kd.R_alloc | apply Kd.R_drewN | apply Kd.R_drew); exact HO_247003.out⟩, ⟨by (with_reducible repeat first | refine blk_drewN ?_ _ | refine blk_drew ?_ | refine blk_alloc ?_ _); exact BK246.out⟩, ⟨by (with_reducible repeat first | refine blk_drewN ?_ _ | refine blk_drew ?_ | refine blk_alloc ?_ _); exact BK269.out⟩, ⟨by repeat (first | (with_reducible first | exact HB.out | apply below_alloc | apply pw_below_drewN | apply below_drew1 | refine below_set ?_ GE246.out | refine below_set ?_ GE269.out) | exact HB.out)⟩⟩
           case round =>
            clear H'
            try clear c1
            try clear c2
            try clear p2
            try clear q2
            try clear hx2
            try clear c3
            try clear c4
            try clear c5
            try clear p6
            try clear c7
            try clear c8
            try clear c10
            try clear c11
            try clear c12
            try clear c13
            try clear c14
            try clear c15
            try clear c26
            try clear p26
            try clear q26
            try clear hx26
            try clear c33
            try clear c33b0
            try clear c33b1
            try clear c34
            try clear c34b0
            try clear c34b1
            try clear c35
            try clear c35b0
            try clear c35b1
            try clear c38
            try clear c39
            try clear c39b0
            try clear c40
            try clear c40b0
            try clear c41
            try clear c41b0
            try clear c42
            try clear c42b0
            try clear c44
            try clear c44b0
            try clear c45
            try clear c45b0
            try clear c45b1
            try clear c46
            try clear c47
            try clear c47b0
            try clear c48
            try clear c48b0
            try clear c49
            try clear c49b0
            try clear c49b1
            try clear c53
            try clear hcz18_0
            try clear hcz18_1
            try clear hcz18_2
            try clear hcz18_3
            try clear hcz25_0
            try clear hcz25_1
            try clear hcz25_2
            try clear hcz25_3
            try clear hcz28_0
            try clear hcz28_1
            try clear hcz28_2
            try clear hcz28_3
            try clear hcz30_0
            try clear hcz30_1
            try clear hcz30_2
            try clear hcz30_3
            try clear hcz51_0
            try clear hcz51_1
            try clear hcz51_2
            try clear hcz51_3
            try clear hcz54_0
            try clear hcz54_1
            try clear hcz54_2
            try clear hcz54_3
            try clear hfz18_0
            try clear hfz18_1
            try clear hfz18_2
            try clear hfz18_3
            try clear hfz25_0
            try clear hfz25_1
            try clear hfz25_2
            try clear hfz25_3
            try clear hfz28_0
            try clear hfz28_1
            try clear hfz28_2
            try clear hfz28_3
            try clear hfz30_0
            try clear hfz30_1
            try clear hfz30_2
            try clear hfz30_3
            try clear hfz51_0
            try clear hfz51_1
            try clear hfz51_2
            try clear hfz51_3
            try clear hfz54_0
            try clear hfz54_1
            try clear hfz54_2
            try clear hfz54_3
            try clear hx264_0
            try clear hx265_0
            try clear hx265_1
            try clear hx265_2
            try clear hx266_0
            try clear hx266_1
            try clear hx266_2
            try clear hx267_0
            try clear hx267_1
            try clear hx267_2
            try clear hx268_0
            try clear hx268_1
            try clear hx268_2
            try clear p2
            try clear p26
            try clear p264
            try clear p265
            try clear p266
            try clear p267
            try clear p268
            try clear p6
            try clear q2
            try clear q26
            try clear q264
            try clear q265
            try clear q266
            try clear q267
            try clear q268
            obtain ⟨x27_4, rfl, HA, HK4, HO_16, HO_25, HO_247003, HO_270003, BK246, BK269, HB⟩ := hrel
            cases gk with
            | zero => exact absurd HA.out (by simp [racewaylaw15_DecompBack.l2])
            | succ k4 =>
             ((have H := HA.out);(clear HA);(simp only [racewaylaw15_DecompBack.l2] at H)); (by_cases c56 : x27_4 < (t270.length : Int))
             ·(rw [if_pos c56] at H);(have c56b0 : decide (x27_4 < (t270.length : Int)) = true := decide_eq_true c56);(clear c56)
              by_cases c57 : 0 ≤ x27_4
              ·(rw [if_pos c57] at H);(have c57b0 : decide (0 ≤ x27_4) = true := decide_eq_true c57);(clear c57)
               by_cases c58 : ((rd_T36 t270 x27_4).f0) = 112
               ·(rw [if_pos c58] at H);(have c58b0 : (((rd_T36 t270 x27_4).f0) == 112) = true := beq_iff_eq.mpr c58);(have c58b1 : (((rd_T36 t270 x27_4).f0) != 112) = false := bne_eq_false_iff_eq.mpr c58);(clear c58);(exact absurd ((Option.some.inj H).trans hrT_.out) (by simp))
               ·(rw [if_neg c58] at H);(have c58b0 : (((rd_T36 t270 x27_4).f0) == 112) = false := beq_eq_false_iff_ne.mpr c58);(have c58b1 : (((rd_T36 t270 x27_4).f0) != 112) = true := bne_iff_ne.mpr c58)
                as_aux_lemma =>
                 ((have H' := Aside0.mk H);(clear H);(obtain ⟨Ao59, co59, eo59⟩ := Kd.S_slice HO_25.out);(subst eo59);(have p274 : 0 ≤ (x27_4 : Int) := of_decide_eq_true (by first | (with_reducible assumption) | assumption));(have q274 : x27_4 < (t270.length : Int) := of_decide_eq_true (by first | (with_reducible assumption) | assumption));(obtain ⟨ad274, A274_1, c274_1, e274, hx274_0, hx274_1, hx274_2, hl274_1, hi274_1⟩ := at_T36 (Kd.S_reads' HO_25.out).2.2 x27_4 p274 q274);(cases e274);(obtain ⟨ce274, hce274, hMe274, hcc274⟩ := Kd.S_get HO_25.out z36 x27_4 p274 (by first | exact q274 | exact of_decide_eq_true (by first | (with_reducible assumption) | assumption) | (have e_ := (Kd.S_reads' HO_25.out).1; omega)));(obtain ⟨ve274_1, rfl, ge274_1⟩ := k36_openM hMe274);(have hv274_1 := hcc274 1 _ rfl);(rw [add_field _ _ 1 (by omega)] at hv274_1);(replace hv274_1 := Option.some.inj (hv274_1.symm.trans hx274_1));(rw [hv274_1] at ge274_1);(have HL274_1 := Aside0.mk (show Kd.R (Kd.int .i64) 3 _ _ _ _ ((rd_T36 t270 x27_4).f1) from ge274_1));(clear hv274_1 ge274_1);(clear hcc274 hce274);(have HR274_1 := Aside0.mk hi274_1);(have HC274_1 := Aside0.mk hl274_1);(clear hi274_1 hl274_1);(replace p274 := eq_true p274);(replace q274 := eq_true q274)); (go_wp2); (go_roundg k4)
                 case measure => have := HJ13.out; have := HK2.out; have := HK3.out; have := HK4.out; omega
                 case rel => exact ⟨(wrap64 (x27_4 + 1)), (by first | rfl | (simp; done) | (simp [*]; done)), H', ⟨by have := HJ13.out; have := HK2.out; have := HK3.out; have := HK4.out; omega⟩, ⟨by (with_reducible repeat (first | apply Kd.S_alloc | apply Kd.S_drewN | apply Kd.S_drew)); exact HO_16.out⟩, ⟨by (with_reducible repeat (first | apply Kd.S_alloc | apply Kd.S_drewN | apply Kd.S_drew)); exact HO_25.out⟩, ⟨by (with_reducible repeat first | apply Kd.R_alloc | apply Kd.R_drewN | apply Kd.R_drew); exact HO_247003.out⟩, ⟨by (with_reducible repeat first | apply Kd.R_alloc | apply Kd.R_drewN | apply Kd.R_drew); exact HO_270003.out⟩, ⟨by (with_reducible repeat first | refine blk_drewN ?_ _ | refine blk_drew ?_ | refine blk_alloc ?_ _); exact BK246.out⟩, ⟨by (with_reducible repeat first | refine blk_drewN ?_ _ | refine blk_drew ?_ | refine blk_alloc ?_ _); exact BK269.out⟩, ⟨by repeat (first | (with_reducible first | exact HB.out | apply below_alloc | apply pw_below_drewN | apply below_drew1 | refine below_set ?_ GE246.out | refine below_set ?_ GE269.out) | exact HB.out)⟩⟩
              ·(rw [if_neg c57] at H);(exact absurd H (by simp))
             ·(rw [if_neg c56] at H);(have c56b0 : decide (x27_4 < (t270.length : Int)) = false := decide_eq_false c56);(clear c56)
              by_cases c60 : x22_3 = t253
              ·(rw [if_pos c60] at H);(have c60b0 : (x22_3 == t253) = true := beq_iff_eq.mpr c60);(have c60b1 : (x22_3 != t253) = false := bne_eq_false_iff_eq.mpr c60);(clear c60)
               by_cases c61 : (t255.length : Int) ≤ x20_2
               ·(rw [if_pos c61] at H);(have c61b0 : decide ((t255.length : Int) ≤ x20_2) = true := decide_eq_true c61);(clear c61)
                by_cases c62 : t273 = 0
                ·(rw [if_pos c62] at H);(have c62b0 : (t273 == 0) = true := beq_iff_eq.mpr c62);(have c62b1 : (t273 != 0) = false := bne_eq_false_iff_eq.mpr c62);(clear c62)
                 as_aux_lemma =>
                  ((obtain rfl := Option.some.inj H);(obtain ⟨Ao63, co63, eo63⟩ := Kd.S_slice HO_25.out);(subst eo63)); (go_wp2); (go_ret); (exact ⟨by first | rfl | (simp [errW_none, errW_some] <;> rfl) | (simp [*, errW_none, errW_some] <;> rfl), by repeat (first | (with_reducible first | exact HB.out | apply below_alloc | apply pw_below_drewN | apply below_drew1 | refine below_set ?_ GE246.out | refine below_set ?_ GE269.out) | exact HB.out)⟩)
                ·(rw [if_neg c62] at H);(have c62b0 : (t273 == 0) = false := beq_eq_false_iff_ne.mpr c62);(have c62b1 : (t273 != 0) = true := bne_iff_ne.mpr c62);(exact absurd ((Option.some.inj H).trans hrT_.out) (by simp))
               ·(rw [if_neg c61] at H);(have c61b0 : decide ((t255.length : Int) ≤ x20_2) = false := decide_eq_false c61);(clear c61);(exact absurd ((Option.some.inj H).trans hrT_.out) (by simp))
              ·(rw [if_neg c60] at H);(have c60b0 : (x22_3 == t253) = false := beq_eq_false_iff_ne.mpr c60);(have c60b1 : (x22_3 != t253) = true := bne_iff_ne.mpr c60);(exact absurd ((Option.some.inj H).trans hrT_.out) (by simp))
 (·(replace c7 := Bool.eq_false_iff.mpr c7); subst c7; (have H1 : (some false) = some r := by rw [if_neg (show ¬ (false = true) by decide)] at H; exact H); clear H; (have H := H1); clear H1; (exact absurd ((Option.some.inj H).trans hrT_.out) (by simp)))
/-- THE ONE PURE STATEMENT of racewaylaw15_DecompBack. -/
def racewaylaw15_DecompBack.Pure : Prop := ∀ (a0 : Int) (a1 : Int) (l2 : List (S61)) (l3 : List Int) (l4 : List Int), (Lit.int .i64 a0).wf = true → (Lit.int .i64 a1).wf = true → l2.length ≤ maxLen → (∀ x ∈ l2, (Lit.int .i64 x.f0).wf = true ∧ (Lit.int .i64 x.f1).wf = true ∧ (Lit.int .i64 x.f2).wf = true) → l3.length ≤ maxLen → l3.length * 8 ≤ 140737488351232 → (∀ x ∈ l3, (Lit.int .i64 x).wf = true) → l4.length ≤ maxLen → l4.length * 8 ≤ 140737488351232 → (∀ x ∈ l4, (Lit.int .i64 x).wf = true) → ∃ k, racewaylaw15_DecompBack.f k a0 a1 l2 l3 l4 = some true
theorem racewaylaw15_DecompBack.walk (P : racewaylaw15_DecompBack.Pure) (a0 : Int) (a1 : Int) (A2 : Option Addr) (c2 : Nat) (l2 : List (S61)) (A3 : Option Addr) (c3 : Nat) (l3 : List Int) (A4 : Option Addr) (c4 : Nat) (l4 : List Int) (w : World) (w0 : (Lit.int .i64 a0).wf = true) (w1 : (Lit.int .i64 a1).wf = true) (hr2 : Kd.C k61 w A2 l2.length l2) (hc2 : l2.length ≤ c2) (hm2 : l2.length ≤ maxLen) (hw2 : (∀ x ∈ l2, (Lit.int .i64 x.f0).wf = true ∧ (Lit.int .i64 x.f1).wf = true ∧ (Lit.int .i64 x.f2).wf = true)) (hr3 : Kd.C (Kd.int .i64) w A3 l3.length l3) (hc3 : l3.length ≤ c3) (hm3 : l3.length ≤ maxLen) (y3 : l3.length * 8 ≤ 140737488351232) (hw3 : (∀ x ∈ l3, (Lit.int .i64 x).wf = true)) (hr4 : Kd.C (Kd.int .i64) w A4 l4.length l4) (hc4 : l4.length ≤ c4) (hm4 : l4.length ≤ maxLen) (y4 : l4.length * 8 ≤ 140737488351232) (hw4 : (∀ x ∈ l4, (Lit.int .i64 x).wf = true)) :
  Calls Try.prog 5 #[.int .i64 a0, .int .i64 a1, .slice A2 l2.length c2, .slice A3 l3.length c3, .slice A4 l4.length c4] w fun e w' => e = .returned (.bool true) ∧ Below w.heap.size w w' := by
 (obtain ⟨k, h⟩ := P a0 a1 l2 l3 l4 w0 w1 hm2 hw2 hm3 y3 hw3 hm4 y4 hw4); (refine (racewaylaw15_DecompBack.calls k a0 a1 _ _ l2 _ _ l3 _ _ l4 true w hr2 hc2 hr3 hc3 hr4 hc4 h ⟨rfl⟩).mono ?_); (rintro e w' ⟨rfl, hd⟩); (exact ⟨rfl, hd⟩)
end Go.Proofs.Ytnjdjnoncoeffaa.PDecompBack
