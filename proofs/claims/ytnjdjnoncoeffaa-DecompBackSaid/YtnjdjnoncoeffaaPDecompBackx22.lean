/- For the law DecompBack, for every input: printed by a program (wip/myprint), contracts by hand where it says MANUAL. -/
-- slim5
-- slim
import Derived.Test.YtnjdjnoncoeffaaPDecompBackx0
import Derived.Test.YtnjdjnoncoeffaaPDecompBackx20
namespace Go.Proofs.Ytnjdjnoncoeffaa.PDecompBack
open Go.RowKit Go.Proofs.YtnjdjnoncoeffaaW.PrintWords Go.Proofs.YtnjdjnoncoeffaaW.PrintLast Go.Proofs.YtnjdjnoncoeffaaW.PrintMore
attribute [local go_sem] max2_int min2_int max_two min_two max_three min_three max_four min_four
set_option linter.unusedVariables false
set_option linter.unusedSimpArgs false
/-! ### racewaylaw15_circled: function 12 -/
mutual
def racewaylaw15_circled.l0 : Nat → List Int → List Int → Int → Int → Int → Int → List (S30) → Option (List Int)
 | 0, _, _, _, _, _, _, _ => none
 | k + 1, x1, x2, x7, x165000, x165001, x165002, x165003 => if x7 < (x2.length : Int) then (if x7 < 6 then (racewaylaw15_circled.j1 k x1 x2 x7 (decide ((x1.length : Int) > 0)) x165000 x165001 x165002 x165003) else (racewaylaw15_circled.j1 k x1 x2 x7 false x165000 x165001 x165002 x165003)) else (racewaylaw15_circled.j1 k x1 x2 x7 false x165000 x165001 x165002 x165003)
def racewaylaw15_circled.j1 : Nat → List Int → List Int → Int → Bool → Int → Int → Int → List (S30) → Option (List Int)
 | 0, _, _, _, _, _, _, _, _ => none
 | k + 1, x1, x2, x7, x25, x165000, x165001, x165002, x165003 => if x25 = true then (if 0 ≤ x7 then (if x7 < (x2.length : Int) then ((racewaylaw15_pick.f (rd x2 x7) (x1.length : Int)).bind fun t166 => (racewaylaw15_circled.l1 k x1 x2 x7 t166 0 x165000 x165001 x165002 x165003)) else (none)) else (none)) else (some x1)
def racewaylaw15_circled.l1 : Nat → List Int → List Int → Int → Int → Int → Int → Int → Int → List (S30) → Option (List Int)
 | 0, _, _, _, _, _, _, _, _, _ => none
 | k + 1, x1, x2, x7, x8, x9, x165000, x165001, x165002, x165003 => if x9 < (x1.length : Int) then (if 0 ≤ x8 then (if x8 < (x165003.length : Int) then (if 0 ≤ x9 then (if x9 < (x165003.length : Int) then (if x8 = x9 then (racewaylaw15_circled.j3 k x1 x2 x7 x8 x9 (((rd_T30 x165003 x8).f0) == ((rd_T30 x165003 x8).f1)) x165000 x165001 x165002 x165003 ((rd_T30 x165003 x8).f0) ((rd_T30 x165003 x8).f1) ((rd_T30 x165003 x8).f2) ((rd_T30 x165003 x9).f0) ((rd_T30 x165003 x9).f1) ((rd_T30 x165003 x9).f2)) else (racewaylaw15_circled.j3 k x1 x2 x7 x8 x9 false x165000 x165001 x165002 x165003 ((rd_T30 x165003 x8).f0) ((rd_T30 x165003 x8).f1) ((rd_T30 x165003 x8).f2) ((rd_T30 x165003 x9).f0) ((rd_T30 x165003 x9).f1) ((rd_T30 x165003 x9).f2))) else (none)) else (none)) else (none)) else (none)) else (racewaylaw15_circled.l0 k x1 x2 (wrap64 (x7 + 1)) x165000 x165001 x165002 x165003)
def racewaylaw15_circled.j3 : Nat → List Int → List Int → Int → Int → Int → Bool → Int → Int → Int → List (S30) → Int → Int → Int → Int → Int → Int → Option (List Int)
 | 0, _, _, _, _, _, _, _, _, _, _, _, _, _, _, _, _ => none
 | k + 1, x1, x2, x7, x8, x9, x60, x165000, x165001, x165002, x165003, x169000, x169001, x169002, x171000, x171001, x171002 => if x60 = true then (if 0 ≤ x8 then (if x8 < (x1.length : Int) then (if 0 ≤ x7 then (if x7 < (x2.length : Int) then ((racewaylaw15_pick.f (rd x2 x7) 5).bind fun t174 => (racewaylaw15_circled.j4 k (x1.set (x8 : Int).toNat (wrap64 ((rd x1 x8) + (mn (wrap64 (x169002 - (rd x1 x8))) (wrap64 (1 + t174)))))) x2 x7 x8 x9 x165000 x165001 x165002 x165003 x169000 x169001 x169002 x171000 x171001 x171002)) else (none)) else (none)) else (none)) else (none)) else (racewaylaw15_circled.j4 k x1 x2 x7 x8 x9 x165000 x165001 x165002 x165003 x169000 x169001 x169002 x171000 x171001 x171002)
def racewaylaw15_circled.j4 : Nat → List Int → List Int → Int → Int → Int → Int → Int → Int → List (S30) → Int → Int → Int → Int → Int → Int → Option (List Int)
 | 0, _, _, _, _, _, _, _, _, _, _, _, _, _, _, _ => none
 | k + 1, x1, x2, x7, x8, x9, x165000, x165001, x165002, x165003, x169000, x169001, x169002, x171000, x171001, x171002 => if x8 = x9 then (racewaylaw15_circled.j5 k x1 x2 x7 x8 x9 false x165000 x165001 x165002 x165003 x169000 x169001 x169002 x171000 x171001 x171002) else (if x169000 = x171001 then (if x169001 = x171000 then (racewaylaw15_circled.j5 k x1 x2 x7 x8 x9 (x169000 != x169001) x165000 x165001 x165002 x165003 x169000 x169001 x169002 x171000 x171001 x171002) else (racewaylaw15_circled.j5 k x1 x2 x7 x8 x9 false x165000 x165001 x165002 x165003 x169000 x169001 x169002 x171000 x171001 x171002)) else (racewaylaw15_circled.j5 k x1 x2 x7 x8 x9 false x165000 x165001 x165002 x165003 x169000 x169001 x169002 x171000 x171001 x171002))
def racewaylaw15_circled.j5 : Nat → List Int → List Int → Int → Int → Int → Bool → Int → Int → Int → List (S30) → Int → Int → Int → Int → Int → Int → Option (List Int)
 | 0, _, _, _, _, _, _, _, _, _, _, _, _, _, _, _, _ => none
 | k + 1, x1, x2, x7, x8, x9, x106, x165000, x165001, x165002, x165003, x169000, x169001, x169002, x171000, x171001, x171002 => if x106 = true then (if 0 ≤ x8 then (if x8 < (x1.length : Int) then (if 0 ≤ x9 then (if x9 < (x1.length : Int) then (if 0 ≤ x7 then (if x7 < (x2.length : Int) then ((racewaylaw15_pick.f (rd x2 x7) 7).bind fun t179 => ((some (x1.set (x8 : Int).toNat (wrap64 ((rd x1 x8) + (mn (mn (wrap64 (x169002 - (rd x1 x8))) (wrap64 (x171002 - (rd x1 x9)))) (wrap64 (1 + t179))))) : List Int)).bind fun y181 => (racewaylaw15_circled.l1 k (y181.set (x9 : Int).toNat (wrap64 ((rd y181 x9) + (mn (mn (wrap64 (x169002 - (rd x1 x8))) (wrap64 (x171002 - (rd x1 x9)))) (wrap64 (1 + t179)))))) x2 x7 x8 (wrap64 (x9 + 1)) x165000 x165001 x165002 x165003))) else (none)) else (none)) else (none)) else (none)) else (none)) else (none)) else (racewaylaw15_circled.l1 k x1 x2 x7 x8 (wrap64 (x9 + 1)) x165000 x165001 x165002 x165003)
end
def racewaylaw15_circled.f (k : Nat) (a0_0 : Int) (a0_1 : Int) (a0_2 : Int) (l0_3 : List (S30)) (l1 : List Int) (l2 : List Int) : Option (List Int) := racewaylaw15_circled.l0 k l1 l2 0 a0_0 a0_1 a0_2 l0_3
theorem racewaylaw15_circled.mono_l : ∀ k, (∀ y0 y1 y2 y3 y4 y5 y6, LeO (racewaylaw15_circled.l0 k y0 y1 y2 y3 y4 y5 y6) (racewaylaw15_circled.l0 (k + 1) y0 y1 y2 y3 y4 y5 y6)) ∧ (∀ y0 y1 y2 y3 y4 y5 y6 y7, LeO (racewaylaw15_circled.j1 k y0 y1 y2 y3 y4 y5 y6 y7) (racewaylaw15_circled.j1 (k + 1) y0 y1 y2 y3 y4 y5 y6 y7)) ∧ (∀ y0 y1 y2 y3 y4 y5 y6 y7 y8, LeO (racewaylaw15_circled.l1 k y0 y1 y2 y3 y4 y5 y6 y7 y8) (racewaylaw15_circled.l1 (k + 1) y0 y1 y2 y3 y4 y5 y6 y7 y8)) ∧ (∀ y0 y1 y2 y3 y4 y5 y6 y7 y8 y9 y10 y11 y12 y13 y14 y15, LeO (racewaylaw15_circled.j3 k y0 y1 y2 y3 y4 y5 y6 y7 y8 y9 y10 y11 y12 y13 y14 y15) (racewaylaw15_circled.j3 (k + 1) y0 y1 y2 y3 y4 y5 y6 y7 y8 y9 y10 y11 y12 y13 y14 y15)) ∧ (∀ y0 y1 y2 y3 y4 y5 y6 y7 y8 y9 y10 y11 y12 y13 y14, LeO (racewaylaw15_circled.j4 k y0 y1 y2 y3 y4 y5 y6 y7 y8 y9 y10 y11 y12 y13 y14) (racewaylaw15_circled.j4 (k + 1) y0 y1 y2 y3 y4 y5 y6 y7 y8 y9 y10 y11 y12 y13 y14)) ∧ (∀ y0 y1 y2 y3 y4 y5 y6 y7 y8 y9 y10 y11 y12 y13 y14 y15, LeO (racewaylaw15_circled.j5 k y0 y1 y2 y3 y4 y5 y6 y7 y8 y9 y10 y11 y12 y13 y14 y15) (racewaylaw15_circled.j5 (k + 1) y0 y1 y2 y3 y4 y5 y6 y7 y8 y9 y10 y11 y12 y13 y14 y15))
 | 0 => ⟨fun _ _ _ _ _ _ _ r h => by simp [racewaylaw15_circled.l0] at h, fun _ _ _ _ _ _ _ _ r h => by simp [racewaylaw15_circled.j1] at h, fun _ _ _ _ _ _ _ _ _ r h => by simp [racewaylaw15_circled.l1] at h, fun _ _ _ _ _ _ _ _ _ _ _ _ _ _ _ _ r h => by simp [racewaylaw15_circled.j3] at h, fun _ _ _ _ _ _ _ _ _ _ _ _ _ _ _ r h => by simp [racewaylaw15_circled.j4] at h, fun _ _ _ _ _ _ _ _ _ _ _ _ _ _ _ _ r h => by simp [racewaylaw15_circled.j5] at h⟩
 | k + 1 => by
  (obtain ⟨ih0, ih1, ih2, ih3, ih4, ih5⟩ := racewaylaw15_circled.mono_l k); (refine ⟨?_, ?_, ?_, ?_, ?_, ?_⟩)
  ·intro y0 y1 y2 y3 y4 y5 y6
   unfold racewaylaw15_circled.l0
   repeat' first
   | (with_reducible exact ih0 _ _ _ _ _ _ _)
   | (with_reducible exact ih1 _ _ _ _ _ _ _ _)
   | (with_reducible exact ih2 _ _ _ _ _ _ _ _ _)
   | (with_reducible exact ih3 _ _ _ _ _ _ _ _ _ _ _ _ _ _ _ _)
   | (with_reducible exact ih4 _ _ _ _ _ _ _ _ _ _ _ _ _ _ _)
   | (with_reducible exact ih5 _ _ _ _ _ _ _ _ _ _ _ _ _ _ _ _)
   | (with_reducible exact LeO.refl _)
   | (with_reducible exact LeO.none _)
   | (with_reducible refine LeO.ite ?_ ?_)
   | (with_reducible refine LeO.bind ?_ (fun _ => ?_))
   | exact ih0 _ _ _ _ _ _ _
   | exact ih1 _ _ _ _ _ _ _ _
   | exact ih2 _ _ _ _ _ _ _ _ _
   | exact ih3 _ _ _ _ _ _ _ _ _ _ _ _ _ _ _ _
   | exact ih4 _ _ _ _ _ _ _ _ _ _ _ _ _ _ _
   | exact ih5 _ _ _ _ _ _ _ _ _ _ _ _ _ _ _ _
   | exact LeO.none _
   | refine LeO.ite ?_ ?_
   | refine LeO.bind ?_ (fun _ => ?_)
  ·intro y0 y1 y2 y3 y4 y5 y6 y7
   unfold racewaylaw15_circled.j1
   repeat' first
   | (with_reducible exact ih0 _ _ _ _ _ _ _)
   | (with_reducible exact ih1 _ _ _ _ _ _ _ _)
   | (with_reducible exact ih2 _ _ _ _ _ _ _ _ _)
   | (with_reducible exact ih3 _ _ _ _ _ _ _ _ _ _ _ _ _ _ _ _)
   | (with_reducible exact ih4 _ _ _ _ _ _ _ _ _ _ _ _ _ _ _)
   | (with_reducible exact ih5 _ _ _ _ _ _ _ _ _ _ _ _ _ _ _ _)
   | (with_reducible exact LeO.refl _)
   | (with_reducible exact LeO.none _)
   | (with_reducible refine LeO.ite ?_ ?_)
   | (with_reducible refine LeO.bind ?_ (fun _ => ?_))
   | exact ih0 _ _ _ _ _ _ _
   | exact ih1 _ _ _ _ _ _ _ _
   | exact ih2 _ _ _ _ _ _ _ _ _
   | exact ih3 _ _ _ _ _ _ _ _ _ _ _ _ _ _ _ _
   | exact ih4 _ _ _ _ _ _ _ _ _ _ _ _ _ _ _
   | exact ih5 _ _ _ _ _ _ _ _ _ _ _ _ _ _ _ _
   | exact LeO.none _
   | refine LeO.ite ?_ ?_
   | refine LeO.bind ?_ (fun _ => ?_)
  ·intro y0 y1 y2 y3 y4 y5 y6 y7 y8
   unfold racewaylaw15_circled.l1
   repeat' first
   | (with_reducible exact ih0 _ _ _ _ _ _ _)
   | (with_reducible exact ih1 _ _ _ _ _ _ _ _)
   | (with_reducible exact ih2 _ _ _ _ _ _ _ _ _)
   | (with_reducible exact ih3 _ _ _ _ _ _ _ _ _ _ _ _ _ _ _ _)
   | (with_reducible exact ih4 _ _ _ _ _ _ _ _ _ _ _ _ _ _ _)
   | (with_reducible exact ih5 _ _ _ _ _ _ _ _ _ _ _ _ _ _ _ _)
   | (with_reducible exact LeO.refl _)
   | (with_reducible exact LeO.none _)
   | (with_reducible refine LeO.ite ?_ ?_)
   | (with_reducible refine LeO.bind ?_ (fun _ => ?_))
   | exact ih0 _ _ _ _ _ _ _
   | exact ih1 _ _ _ _ _ _ _ _
   | exact ih2 _ _ _ _ _ _ _ _ _
   | exact ih3 _ _ _ _ _ _ _ _ _ _ _ _ _ _ _ _
   | exact ih4 _ _ _ _ _ _ _ _ _ _ _ _ _ _ _
   | exact ih5 _ _ _ _ _ _ _ _ _ _ _ _ _ _ _ _
   | exact LeO.none _
   | refine LeO.ite ?_ ?_
   | refine LeO.bind ?_ (fun _ => ?_)
  ·intro y0 y1 y2 y3 y4 y5 y6 y7 y8 y9 y10 y11 y12 y13 y14 y15
   unfold racewaylaw15_circled.j3
   repeat' first
   | (with_reducible exact ih0 _ _ _ _ _ _ _)
   | (with_reducible exact ih1 _ _ _ _ _ _ _ _)
   | (with_reducible exact ih2 _ _ _ _ _ _ _ _ _)
   | (with_reducible exact ih3 _ _ _ _ _ _ _ _ _ _ _ _ _ _ _ _)
   | (with_reducible exact ih4 _ _ _ _ _ _ _ _ _ _ _ _ _ _ _)
   | (with_reducible exact ih5 _ _ _ _ _ _ _ _ _ _ _ _ _ _ _ _)
   | (with_reducible exact LeO.refl _)
   | (with_reducible exact LeO.none _)
   | (with_reducible refine LeO.ite ?_ ?_)
   | (with_reducible refine LeO.bind ?_ (fun _ => ?_))
   | exact ih0 _ _ _ _ _ _ _
   | exact ih1 _ _ _ _ _ _ _ _
   | exact ih2 _ _ _ _ _ _ _ _ _
   | exact ih3 _ _ _ _ _ _ _ _ _ _ _ _ _ _ _ _
   | exact ih4 _ _ _ _ _ _ _ _ _ _ _ _ _ _ _
   | exact ih5 _ _ _ _ _ _ _ _ _ _ _ _ _ _ _ _
   | exact LeO.none _
   | refine LeO.ite ?_ ?_
   | refine LeO.bind ?_ (fun _ => ?_)
  ·intro y0 y1 y2 y3 y4 y5 y6 y7 y8 y9 y10 y11 y12 y13 y14
   unfold racewaylaw15_circled.j4
   repeat' first
   | (with_reducible exact ih0 _ _ _ _ _ _ _)
   | (with_reducible exact ih1 _ _ _ _ _ _ _ _)
   | (with_reducible exact ih2 _ _ _ _ _ _ _ _ _)
   | (with_reducible exact ih3 _ _ _ _ _ _ _ _ _ _ _ _ _ _ _ _)
   | (with_reducible exact ih4 _ _ _ _ _ _ _ _ _ _ _ _ _ _ _)
   | (with_reducible exact ih5 _ _ _ _ _ _ _ _ _ _ _ _ _ _ _ _)
   | (with_reducible exact LeO.refl _)
   | (with_reducible exact LeO.none _)
   | (with_reducible refine LeO.ite ?_ ?_)
   | (with_reducible refine LeO.bind ?_ (fun _ => ?_))
   | exact ih0 _ _ _ _ _ _ _
   | exact ih1 _ _ _ _ _ _ _ _
   | exact ih2 _ _ _ _ _ _ _ _ _
   | exact ih3 _ _ _ _ _ _ _ _ _ _ _ _ _ _ _ _
   | exact ih4 _ _ _ _ _ _ _ _ _ _ _ _ _ _ _
   | exact ih5 _ _ _ _ _ _ _ _ _ _ _ _ _ _ _ _
   | exact LeO.none _
   | refine LeO.ite ?_ ?_
   | refine LeO.bind ?_ (fun _ => ?_)
  ·intro y0 y1 y2 y3 y4 y5 y6 y7 y8 y9 y10 y11 y12 y13 y14 y15
   unfold racewaylaw15_circled.j5
   repeat' first
   | (with_reducible exact ih0 _ _ _ _ _ _ _)
   | (with_reducible exact ih1 _ _ _ _ _ _ _ _)
   | (with_reducible exact ih2 _ _ _ _ _ _ _ _ _)
   | (with_reducible exact ih3 _ _ _ _ _ _ _ _ _ _ _ _ _ _ _ _)
   | (with_reducible exact ih4 _ _ _ _ _ _ _ _ _ _ _ _ _ _ _)
   | (with_reducible exact ih5 _ _ _ _ _ _ _ _ _ _ _ _ _ _ _ _)
   | (with_reducible exact LeO.refl _)
   | (with_reducible exact LeO.none _)
   | (with_reducible refine LeO.ite ?_ ?_)
   | (with_reducible refine LeO.bind ?_ (fun _ => ?_))
   | exact ih0 _ _ _ _ _ _ _
   | exact ih1 _ _ _ _ _ _ _ _
   | exact ih2 _ _ _ _ _ _ _ _ _
   | exact ih3 _ _ _ _ _ _ _ _ _ _ _ _ _ _ _ _
   | exact ih4 _ _ _ _ _ _ _ _ _ _ _ _ _ _ _
   | exact ih5 _ _ _ _ _ _ _ _ _ _ _ _ _ _ _ _
   | exact LeO.none _
   | refine LeO.ite ?_ ?_
   | refine LeO.bind ?_ (fun _ => ?_)
theorem racewaylaw15_circled.mono : ∀ a0 a1 a2 a3 a4 a5 k, LeO (racewaylaw15_circled.f k a0 a1 a2 a3 a4 a5) (racewaylaw15_circled.f (k + 1) a0 a1 a2 a3 a4 a5) := by
 intro a0 a1 a2 a3 a4 a5 k; (obtain ⟨ih0, ih1, ih2, ih3, ih4, ih5⟩ := racewaylaw15_circled.mono_l k); (unfold racewaylaw15_circled.f)
 repeat' first
   | (with_reducible exact ih0 _ _ _ _ _ _ _)
   | (with_reducible exact ih1 _ _ _ _ _ _ _ _)
   | (with_reducible exact ih2 _ _ _ _ _ _ _ _ _)
   | (with_reducible exact ih3 _ _ _ _ _ _ _ _ _ _ _ _ _ _ _ _)
   | (with_reducible exact ih4 _ _ _ _ _ _ _ _ _ _ _ _ _ _ _)
   | (with_reducible exact ih5 _ _ _ _ _ _ _ _ _ _ _ _ _ _ _ _)
   | (with_reducible exact LeO.refl _)
   | (with_reducible exact LeO.none _)
   | (with_reducible refine LeO.ite ?_ ?_)
   | (with_reducible refine LeO.bind ?_ (fun _ => ?_))
   | exact ih0 _ _ _ _ _ _ _
   | exact ih1 _ _ _ _ _ _ _ _
   | exact ih2 _ _ _ _ _ _ _ _ _
   | exact ih3 _ _ _ _ _ _ _ _ _ _ _ _ _ _ _ _
   | exact ih4 _ _ _ _ _ _ _ _ _ _ _ _ _ _ _
   | exact ih5 _ _ _ _ _ _ _ _ _ _ _ _ _ _ _ _
   | exact LeO.none _
   | refine LeO.ite ?_ ?_
   | refine LeO.bind ?_ (fun _ => ?_)
def racewaylaw15_circled.T11 : Bool × List (List Nat × List Nat) := (true, [([], []), ([], []), ([], []), ([], []), ([2, 3], [2, 3]), ([4], [4]), ([], []), ([6], [6]), ([], []), ([], []), ([8, 9], [8, 9]), ([10], [10]), ([7, 11], [7, 11]), ([], []), ([], []), ([13, 14], [13, 14]), ([15], [15]), ([16], [16]), ([17], [17]), ([12, 18], [12, 18]), ([5, 19], [5, 19]), ([0, 1, 0, 1, 2, 3, 4, 5, 6, 7, 8, 9, 10, 11, 12, 13, 14, 15, 16, 17, 18, 19, 20], [0, 1]), ([21, 20, 17, 0, 1, 2, 3, 4, 5, 6, 7, 8, 9, 10, 11, 12, 13, 14, 15, 16, 17, 18, 19, 20], [20, 21])])
def racewaylaw15_circled.B11 : List Nat := [0, 0, 0, 0, 12, 28, 0, 64, 0, 0, 768, 1792, 4032, 0, 0, 24576, 57344, 122880, 253952, 524224, 1048572, 2097151, 4194303]
theorem racewaylaw15_circled.tab11 : rtab .any (opsOf Try.f12 11) = racewaylaw15_circled.T11 := by kernel_rfl
theorem racewaylaw15_circled.bits11 : waitsOk racewaylaw15_circled.T11.2 racewaylaw15_circled.B11 = true := by kernel_rfl
def racewaylaw15_circled.T13 : Bool × List (List Nat × List Nat) := (true, [([], []), ([0], [0]), ([], []), ([], []), ([2, 3], [2, 3]), ([4], [4]), ([1, 5], [1, 5]), ([], []), ([7], [7]), ([], []), ([], []), ([9, 10], [9, 10]), ([11], [11]), ([8, 12], [8, 12]), ([], []), ([], []), ([14, 15], [14, 15]), ([16], [16]), ([17], [17]), ([18], [18]), ([6, 13, 19], [6, 13, 19]), ([20, 18, 0, 1, 2, 3, 4, 5, 6, 7, 8, 9, 10, 11, 12, 13, 14, 15, 16, 17, 18, 19, 20], [20])])
def racewaylaw15_circled.B13 : List Nat := [0, 1, 0, 0, 12, 28, 63, 0, 128, 0, 0, 1536, 3584, 8064, 0, 0, 49152, 114688, 245760, 507904, 1048575, 2097151]
theorem racewaylaw15_circled.tab13 : rtab .any (opsOf Try.f12 13) = racewaylaw15_circled.T13 := by kernel_rfl
theorem racewaylaw15_circled.bits13 : waitsOk racewaylaw15_circled.T13.2 racewaylaw15_circled.B13 = true := by kernel_rfl
set_option maxHeartbeats 8000000 in
set_option maxRecDepth 100000 in
theorem racewaylaw15_circled.calls (k : Nat) (a0_0 : Int) (a0_1 : Int) (a0_2 : Int) (A0_3 : Option Addr) (c0_3 : Nat) (l0_3 : List (S30)) (P1_ : Nat → Prop) (u9000_ : Value) (l1 : List Int) (A2 : Option Addr) (c2 : Nat) (l2 : List Int) (r : List Int) (w0 w : World) (hB : Below w0.heap.size w0 w) (hr0_3 : ∀ W_, Kept w W_ (fun k_ => P1_ k_) → Kd.C k30 W_ A0_3 l0_3.length l0_3) (hc0_3 : l0_3.length ≤ c0_3) (ho1 : Kd.R (Kd.int .i64) 2 w w0.heap.size P1_ u9000_ l1) (hr2 : ∀ W_, Kept w W_ (fun k_ => P1_ k_) → Kd.C (Kd.int .i64) W_ A2 l2.length l2) (hc2 : l2.length ≤ c2) (h : racewaylaw15_circled.f k a0_0 a0_1 a0_2 l0_3 l1 l2 = some r) :
  Calls Try.prog 12 #[.agg #[.int .i64 a0_0, .int .i64 a0_1, .int .i64 a0_2, .slice A0_3 l0_3.length c0_3], u9000_, .slice A2 l2.length c2] w fun e w' => ∃ v0_ : Value, e = .returned (v0_) ∧ Kd.R (Kd.int .i64) 2 w' w0.heap.size (fun k_ => (P1_ k_ ∨ w.heap.size ≤ k_)) v0_ r ∧ Below w0.heap.size w0 w' ∧ Kept w w' (fun k_ => P1_ k_) := by
 (have hu26 := Try.underlying26); (have hu30 := Try.underlying30); (have HR0_3 := Aside0.mk hr0_3); (have HC0_3 := Aside0.mk hc0_3); clear hr0_3 hc0_3; (have HO1 := Aside0.mk (show Kd.R (Kd.int .i64) 2 w w0.heap.size (fun k_ => (P1_ k_ ∨ w.heap.size ≤ k_)) u9000_ l1 from Kd.R_mono ho1 (fun k_ hk => (.inl hk)))); (have HR2 := Aside0.mk hr2); (have HC2 := Aside0.mk hc2); clear hr2 hc2; (have HK := Aside0.mk (Kept.refl w (fun k_ => P1_ k_))); (have HW0 := Aside0.mk hB.size); (have HB := Aside0.mk hB); clear hB; (have H : (racewaylaw15_circled.l0 k l1 l2 0 a0_0 a0_1 a0_2 l0_3) = some r := h); clear h; (have H' := Aside0.mk H); clear H; (go_enter Try.func12, Try.ntmps12); (go_wp2_with (first | ((with_reducible refine gate_dst (N := 3) rfl ?_); (try (refine gate_guard (by rfl) ?_; dsimp only)); refine box_event ?hg (N := 3) ?hd (cs := #[.int .i64 a0_0, .int .i64 a0_1, .int .i64 a0_2, .slice A0_3 l0_3.length c0_3]) (t := 26) ?hr ?_; (case hd => rfl); (case hg => rfl); (case hr => first | (go_simp; done) | (go_simp; rfl)); intro gb164 hg w4 hbox hb; have n0_ := Aside0.mk (Kd.R_below (by (with_reducible repeat first | apply Kd.R_alloc | apply Kd.R_drewN | apply Kd.R_drew); exact HO1.out) hb); have n1_ := Aside0.mk (Kept.below (S := (fun k_ => P1_ k_)) (by repeat (first | (with_reducible first | exact HK.out | apply Kept.alloc | apply Kept.drewN | apply Kept.drew) | exact HK.out)) hb); have n2_ := Aside0.mk (below_step (by repeat (first | (with_reducible first | exact HB.out | apply below_alloc | apply pw_below_drewN | apply below_drew1) | exact HB.out)) hb); have n3_ := Aside0.mk (hbox); have n4_ := Aside0.mk ((by rw [hg]; exact (by first | exact HK.out.1 | exact (show Kept w _ (fun k_ => P1_ k_) from by repeat (first | (with_reducible first | exact HK.out | apply Kept.alloc | apply Kept.drewN | apply Kept.drew) | exact HK.out)).1) : w.heap.size ≤ gb164)); have n5_ := Aside0.mk ((by rw [hg]; exact (below_size (by repeat (first | (with_reducible first | exact HB.out | apply below_alloc | apply pw_below_drewN | apply below_drew1) | exact HB.out))) : w0.heap.size ≤ gb164)); clear HO1; clear HK; clear HB; have HO1 := n0_; have HK := n1_; have HB := n2_; have BK164 := n3_; have GW164 := n4_; have GE164 := n5_; clear n0_ n1_ n2_ n3_ n4_ n5_; clear hb hbox hg))); (go_loopg [7] k (fun kq v7 w' => ∃ (x1_1 : List Int) (x7_1 : Int), v7 = .int .i64 x7_1 ∧ Aside0 (racewaylaw15_circled.l0 kq x1_1 l2 x7_1 a0_0 a0_1 a0_2 l0_3 = some r) ∧ Aside0 (kq ≤ k) ∧ Aside0 (Kd.R (Kd.int .i64) 2 w' w0.heap.size (fun k_ => (P1_ k_ ∨ w.heap.size ≤ k_)) u9000_ x1_1) ∧ Aside0 (w'.heap[gb164]? = some (.cells #[.int .i64 a0_0, .int .i64 a0_1, .int .i64 a0_2, (.slice A0_3 l0_3.length c0_3)] 26 (0, 0))) ∧ Aside0 (Kept w w' (fun k_ => P1_ k_)) ∧ Aside0 (Below w0.heap.size w0 w')))
 case atStart => exact ⟨(l1), (0), (by first | rfl | (simp; done) | (simp [*]; done)), H', ⟨Nat.le_refl _⟩, ⟨by (with_reducible repeat first | apply Kd.R_alloc | apply Kd.R_drewN | apply Kd.R_drew); exact HO1.out⟩, ⟨by (with_reducible repeat first | refine blk_drewN ?_ _ | refine blk_drew ?_ | refine blk_alloc ?_ _); exact BK164.out⟩, ⟨by repeat (first | (with_reducible first | exact HK.out | apply Kept.alloc | apply Kept.drewN | apply Kept.drew | refine Kept.setCell ?_ (.inr GW164.out) _) | exact HK.out)⟩, ⟨by repeat (first | (with_reducible first | exact HB.out | apply below_alloc | apply pw_below_drewN | apply below_drew1 | refine below_set ?_ GE164.out) | exact HB.out)⟩⟩
 case round =>
  clear H'
  try clear c1
  try clear c2
  try clear p2
  obtain ⟨x1_1, x7_1, rfl, HA, HK1, HO_1, BK164, HK, HB⟩ := hrel
  cases gk with
  | zero => exact absurd HA.out (by simp [racewaylaw15_circled.l0])
  | succ k1 =>
   ((have H := HA.out);(clear HA);(simp only [racewaylaw15_circled.l0] at H);(have HC5 := Aside0.mk H);(clear H)); (go_upto_region 2 with (fail)); (go_cut [25] (fun v25 wc => ∃ (kq : Nat) (x25_4 : Bool), v25 = .bool x25_4 ∧ Aside0 (racewaylaw15_circled.j1 kq x1_1 l2 x7_1 x25_4 a0_0 a0_1 a0_2 l0_3 = some r) ∧ Aside0 (kq ≤ k1) ∧ Aside0 (Kd.R (Kd.int .i64) 2 wc w0.heap.size (fun k_ => (P1_ k_ ∨ w.heap.size ≤ k_)) u9000_ x1_1) ∧ Aside0 (wc.heap[gb164]? = some (.cells #[.int .i64 a0_0, .int .i64 a0_1, .int .i64 a0_2, (.slice A0_3 l0_3.length c0_3)] 26 (0, 0))) ∧ Aside0 (Kept w wc (fun k_ => P1_ k_)) ∧ Aside0 (Below w0.heap.size w0 wc)))
   case first =>
    ((have H := HC5.out);(clear HC5)); (by_cases c6 : x7_1 < (l2.length : Int))
    ·(rw [if_pos c6] at H);(have c6b0 : decide (x7_1 < (l2.length : Int)) = true := decide_eq_true c6);(clear c6);((first | rw [c6b0] | (simp only [i64_w, i32_w]; rw [c6b0]) | skip))
     by_cases c7 : x7_1 < 6
     ·(rw [if_pos c7] at H);(have c7b0 : decide (x7_1 < 6) = true := decide_eq_true c7);(clear c7)
      as_aux_lemma =>
       ((have H' := Aside0.mk H);(clear H);(obtain ⟨Ao8, co8, eo8⟩ := Kd.R_slice HO_1.out);(subst eo8)); (go_wp2); (go_meet)
       case rel => exact ⟨_, (decide ((x1_1.length : Int) > 0)), (by first | rfl | (simp; done) | (simp [*]; done)), H', ⟨by have := HK1.out; first | omega | exact Nat.le_refl _⟩, ⟨by (with_reducible repeat first | apply Kd.R_alloc | apply Kd.R_drewN | apply Kd.R_drew); exact HO_1.out⟩, ⟨by (with_reducible repeat first | refine blk_drewN ?_ _ | refine blk_drew ?_ | refine blk_alloc ?_ _); exact BK164.out⟩, ⟨by repeat (first | (with_reducible first | exact HK.out | apply Kept.alloc | apply Kept.drewN | apply Kept.drew | refine Kept.setCell ?_ (.inr GW164.out) _) | exact HK.out)⟩, ⟨by repeat (first | (with_reducible first | exact HB.out | apply below_alloc | apply pw_below_drewN | apply below_drew1 | refine below_set ?_ GE164.out) | exact HB.out)⟩⟩
     ·(rw [if_neg c7] at H);(have c7b0 : decide (x7_1 < 6) = false := decide_eq_false c7);(clear c7)
      as_aux_lemma =>
       ((have H' := Aside0.mk H);(clear H)); (go_wp2); (go_meet)
       case rel => exact ⟨_, (false), (by first | rfl | (simp; done) | (simp [*]; done)), H', ⟨by have := HK1.out; first | omega | exact Nat.le_refl _⟩, ⟨by (with_reducible repeat first | apply Kd.R_alloc | apply Kd.R_drewN | apply Kd.R_drew); exact HO_1.out⟩, ⟨by (with_reducible repeat first | refine blk_drewN ?_ _ | refine blk_drew ?_ | refine blk_alloc ?_ _); exact BK164.out⟩, ⟨by repeat (first | (with_reducible first | exact HK.out | apply Kept.alloc | apply Kept.drewN | apply Kept.drew | refine Kept.setCell ?_ (.inr GW164.out) _) | exact HK.out)⟩, ⟨by repeat (first | (with_reducible first | exact HB.out | apply below_alloc | apply pw_below_drewN | apply below_drew1 | refine below_set ?_ GE164.out) | exact HB.out)⟩⟩
    ·(rw [if_neg c6] at H);(have c6b0 : decide (x7_1 < (l2.length : Int)) = false := decide_eq_false c6);(clear c6);((first | rw [c6b0] | (simp only [i64_w, i32_w]; rw [c6b0]) | skip))
     as_aux_lemma =>
      ((have H' := Aside0.mk H);(clear H)); (go_wp2); (go_meet)
      case rel => exact ⟨_, (false), (by first | rfl | (simp; done) | (simp [*]; done)), H', ⟨by have := HK1.out; first | omega | exact Nat.le_refl _⟩, ⟨by (with_reducible repeat first | apply Kd.R_alloc | apply Kd.R_drewN | apply Kd.R_drew); exact HO_1.out⟩, ⟨by (with_reducible repeat first | refine blk_drewN ?_ _ | refine blk_drew ?_ | refine blk_alloc ?_ _); exact BK164.out⟩, ⟨by repeat (first | (with_reducible first | exact HK.out | apply Kept.alloc | apply Kept.drewN | apply Kept.drew | refine Kept.setCell ?_ (.inr GW164.out) _) | exact HK.out)⟩, ⟨by repeat (first | (with_reducible first | exact HB.out | apply below_alloc | apply pw_below_drewN | apply below_drew1 | refine below_set ?_ GE164.out) | exact HB.out)⟩⟩
   case rest =>
    clear HC5
    try clear c1
    try clear c2
    try clear p2
    try clear c6
    try clear c6b0
    try clear c7
    try clear c7b0
    try clear p2
    obtain ⟨kq, x25_4, rfl, HA, HJ4, HO_1, BK164, HK, HB⟩ := hcut
    cases kq with
    | zero => exact absurd HA.out (by simp [racewaylaw15_circled.j1])
    | succ kj4 =>
     ((have H := HA.out);(clear HA);(simp only [racewaylaw15_circled.j1] at H)); (by_cases c9 : x25_4 = true)
     ·(subst c9);(have H1 : (if 0 ≤ x7_1 then (if x7_1 < (l2.length : Int) then ((racewaylaw15_pick.f (rd l2 x7_1) (x1_1.length : Int)).bind fun t166 => (racewaylaw15_circled.l1 kj4 x1_1 l2 x7_1 t166 0 a0_0 a0_1 a0_2 l0_3)) else (none)) else (none)) = some r := by rw [if_pos rfl] at H; exact H);(clear H);(have H := H1);(clear H1)
      by_cases c10 : 0 ≤ x7_1
      ·(rw [if_pos c10] at H);(have c10b0 : decide (0 ≤ x7_1) = true := decide_eq_true c10);(clear c10)
       by_cases c11 : x7_1 < (l2.length : Int)
       ·(rw [if_pos c11] at H);(have c11b0 : decide (x7_1 < (l2.length : Int)) = true := decide_eq_true c11);(clear c11);(replace H := Option.bind_eq_some_iff.mp H);(obtain ⟨t166, A120, H⟩ := H);(replace H : (racewaylaw15_circled.l1 kj4 x1_1 l2 x7_1 t166 0 a0_0 a0_1 a0_2 l0_3) = some r := H);(have A12 := Aside0.mk A120);(clear A120);(have H' := Aside0.mk H);(clear H);(have p165 : 0 ≤ (x7_1 : Int) := of_decide_eq_true (by first | (with_reducible assumption) | assumption));(have q165 : x7_1 < (l2.length : Int) := of_decide_eq_true (by first | (with_reducible assumption) | assumption));(obtain ⟨ad165, e165, hx165_0⟩ := Kd.at_int (Kd.C_kept_now HR2.out HK.out) x7_1 p165 q165);(cases e165);(replace p165 := eq_true p165);(replace q165 := eq_true q165);(obtain ⟨Ao13, co13, eo13⟩ := Kd.R_slice HO_1.out);(subst eo13)
        (go_wp2_with (first | ((with_reducible refine gate_callee (f := 9) rfl ?_); refine goesL_ (some 34) rfl rfl Try.func9 (by kernel_rfl) rfl #[.int .i64 (rd l2 x7_1), .int .i64 (x1_1.length : Int)] rfl (by (try simp only [List.map_toArray, List.map_cons, List.map_nil]); first | done | rfl | (simp only [List.length_drop, List.length_take]; rfl)) ?_; (with_reducible refine (racewaylaw15_pick.calls (rd l2 x7_1) (x1_1.length : Int) t166 _ A12.out).mono ?_); rintro e w' ⟨rfl, ⟨nd, rfl⟩⟩; refine ⟨_, rfl, ?_⟩))); (go_loopg [9] kj4 (fun kq v9 w' => ∃ (x1_3 : List Int) (x9_3 : Int), v9 = .int .i64 x9_3 ∧ Aside0 (racewaylaw15_circled.l1 kq x1_3 l2 x7_1 t166 x9_3 a0_0 a0_1 a0_2 l0_3 = some r) ∧ Aside0 (kq ≤ kj4) ∧ Aside0 (Kd.R (Kd.int .i64) 2 w' w0.heap.size (fun k_ => (P1_ k_ ∨ w.heap.size ≤ k_)) (.slice Ao13 x1_1.length co13) x1_3) ∧ Aside0 (w'.heap[gb164]? = some (.cells #[.int .i64 a0_0, .int .i64 a0_1, .int .i64 a0_2, (.slice A0_3 l0_3.length c0_3)] 26 (0, 0))) ∧ Aside0 (Kept w w' (fun k_ => P1_ k_)) ∧ Aside0 (Below w0.heap.size w0 w')))
        case atStart => exact ⟨(x1_1), (0), (by first | rfl | (simp; done) | (simp [*]; done)), H', ⟨Nat.le_refl _⟩, ⟨by (with_reducible repeat first | apply Kd.R_alloc | apply Kd.R_drewN | apply Kd.R_drew); exact HO_1.out⟩, ⟨by (with_reducible repeat first | refine blk_drewN ?_ _ | refine blk_drew ?_ | refine blk_alloc ?_ _); exact BK164.out⟩, ⟨by repeat (first | (with_reducible first | exact HK.out | apply Kept.alloc | apply Kept.drewN | apply Kept.drew | refine Kept.setCell ?_ (.inr GW164.out) _) | exact HK.out)⟩, ⟨by repeat (first | (with_reducible first | exact HB.out | apply below_alloc | apply pw_below_drewN | apply below_drew1 | refine below_set ?_ GE164.out) | exact HB.out)⟩⟩
        case round =>
         clear H'
         try clear c1
         try clear p1
         try clear q1
         try clear hx1
         try clear c2
         try clear p2
         try clear c6
         try clear c6b0
         try clear c7
         try clear c7b0
         try clear c9
         try clear c10
         try clear c10b0
         try clear c11
         try clear c11b0
         try clear c12
         try clear hx165_0
         try clear p165
         try clear p2
         try clear q165
         (obtain ⟨x1_3, x9_3, rfl, HA, HK3, HO_1, BK164, HK, HB⟩ := hrel);(have hl1_3 := (Kd.R_reads' HO_1.out).1);(rw [hl1_3] at HO_1);((try simp only [hl1_3]));((try simp only [hl1_3] at BK164))
         cases gk with
         | zero => exact absurd HA.out (by simp [racewaylaw15_circled.l1])
         | succ k3 =>
          ((have H := HA.out);(clear HA);(simp only [racewaylaw15_circled.l1] at H)); (by_cases c14 : x9_3 < (x1_3.length : Int))
          ·(rw [if_pos c14] at H);(have c14b0 : decide (x9_3 < (x1_3.length : Int)) = true := decide_eq_true c14);(clear c14)
           by_cases c15 : 0 ≤ t166
           ·(rw [if_pos c15] at H);(have c15b0 : decide (0 ≤ t166) = true := decide_eq_true c15);(clear c15)
            by_cases c16 : t166 < (l0_3.length : Int)
            ·(rw [if_pos c16] at H);(have c16b0 : decide (t166 < (l0_3.length : Int)) = true := decide_eq_true c16);(clear c16)
             by_cases c17 : 0 ≤ x9_3
             ·(rw [if_pos c17] at H);(have c17b0 : decide (0 ≤ x9_3) = true := decide_eq_true c17);(clear c17)
              by_cases c18 : x9_3 < (l0_3.length : Int)
              ·(rw [if_pos c18] at H);(have c18b0 : decide (x9_3 < (l0_3.length : Int)) = true := decide_eq_true c18);(clear c18);(have HC19 := Aside0.mk H);(clear H);(have hcz20_0 : wr.cell? ⟨gb164, 0, none⟩ = some (.int .i64 a0_0) := (blk_cell BK164.out 0).trans rfl);(have hcz20_1 : wr.cell? ⟨gb164, 1, none⟩ = some (.int .i64 a0_1) := (blk_cell BK164.out 1).trans rfl);(have hcz20_2 : wr.cell? ⟨gb164, 2, none⟩ = some (.int .i64 a0_2) := (blk_cell BK164.out 2).trans rfl);(have hcz20_3 : wr.cell? ⟨gb164, 3, none⟩ = some (.slice A0_3 l0_3.length c0_3) := (blk_cell BK164.out 3).trans rfl);(have hfz20_0 := blk_frozen BK164.out 0);(have hfz20_1 := blk_frozen BK164.out 1);(have hfz20_2 := blk_frozen BK164.out 2);(have hfz20_3 := blk_frozen BK164.out 3);(have p167 : 0 ≤ (t166 : Int) := of_decide_eq_true (by first | (with_reducible assumption) | assumption));(have q167 : t166 < (l0_3.length : Int) := of_decide_eq_true (by first | (with_reducible assumption) | assumption));(obtain ⟨ad167, e167, hx167_0, hx167_1, hx167_2⟩ := at_T30 (Kd.C_kept_now HR0_3.out HK.out) t166 p167 q167);(cases e167);(replace p167 := eq_true p167);(replace q167 := eq_true q167)
               go_upto_region 10 with (first | ((with_reducible refine gate_dst (N := 10) rfl ?_); (try (refine gate_guard (by rfl) ?_; dsimp only)); refine box_event ?hg (N := 10) ?hd (cs := #[.int .i64 0, .int .i64 0, .int .i64 0]) (t := 30) ?hr ?_; (case hd => rfl); (case hg => rfl); (case hr => first | (go_simp; done) | (go_simp; rfl)); intro gb168 hg w21 hbox hb; have n0_ := Aside0.mk (Kd.R_below (by (with_reducible repeat first | apply Kd.R_alloc | apply Kd.R_drewN | apply Kd.R_drew); exact HO_1.out) hb); have n1_ := Aside0.mk (blk_below (g := gb164) (o := .cells #[.int .i64 a0_0, .int .i64 a0_1, .int .i64 a0_2, .slice (some ad167) l0_3.length c0_3] 26 (0, 0)) (by (with_reducible repeat first | refine blk_drewN ?_ _ | refine blk_drew ?_ | refine blk_alloc ?_ _); exact BK164.out) hb); have n2_ := Aside0.mk (Kept.below (S := (fun k_ => P1_ k_)) (by repeat (first | (with_reducible first | exact HK.out | apply Kept.alloc | apply Kept.drewN | apply Kept.drew | refine Kept.setCell ?_ (.inr GW164.out) _) | exact HK.out)) hb); have n3_ := Aside0.mk (below_step (by repeat (first | (with_reducible first | exact HB.out | apply below_alloc | apply pw_below_drewN | apply below_drew1 | refine below_set ?_ GE164.out) | exact HB.out)) hb); have n4_ := Aside0.mk (hbox); have n5_ := Aside0.mk ((by rw [hg]; exact (by first | exact HK.out.1 | exact (show Kept w _ (fun k_ => P1_ k_) from by repeat (first | (with_reducible first | exact HK.out | apply Kept.alloc | apply Kept.drewN | apply Kept.drew | refine Kept.setCell ?_ (.inr GW164.out) _) | exact HK.out)).1) : w.heap.size ≤ gb168)); have n6_ := Aside0.mk ((by rw [hg]; exact (below_size (by repeat (first | (with_reducible first | exact HB.out | apply below_alloc | apply pw_below_drewN | apply below_drew1 | refine below_set ?_ GE164.out) | exact HB.out))) : w0.heap.size ≤ gb168)); have n7_ := Aside0.mk ((by rw [hg]; exact Nat.ne_of_lt (blk_lt (g := gb164) (o := .cells #[.int .i64 a0_0, .int .i64 a0_1, .int .i64 a0_2, .slice (some ad167) l0_3.length c0_3] 26 (0, 0)) (by (with_reducible repeat first | refine blk_drewN ?_ _ | refine blk_drew ?_ | refine blk_alloc ?_ _); exact BK164.out)) : gb164 ≠ gb168)); have n8_ := Aside0.mk ((by rw [hg]; exact Nat.ne_of_gt (blk_lt (g := gb164) (o := .cells #[.int .i64 a0_0, .int .i64 a0_1, .int .i64 a0_2, .slice (some ad167) l0_3.length c0_3] 26 (0, 0)) (by (with_reducible repeat first | refine blk_drewN ?_ _ | refine blk_drew ?_ | refine blk_alloc ?_ _); exact BK164.out)) : gb168 ≠ gb164)); clear HO_1; clear BK164; clear HK; clear HB; have HO_1 := n0_; have BK164 := n1_; have HK := n2_; have HB := n3_; have BK168 := n4_; have GW168 := n5_; have GE168 := n6_; have NB164_168 := n7_; have NB168_164 := n8_; clear n0_ n1_ n2_ n3_ n4_ n5_ n6_ n7_ n8_; clear hb hbox hg; have hnb22 := NB168_164.out; have hnc22 := NB164_168.out; have hcz23_0 : w21.cell? ⟨gb168, 0, none⟩ = some (.int .i64 0) := (blk_cell BK168.out 0).trans rfl; have hcz23_1 : w21.cell? ⟨gb168, 1, none⟩ = some (.int .i64 0) := (blk_cell BK168.out 1).trans rfl; have hcz23_2 : w21.cell? ⟨gb168, 2, none⟩ = some (.int .i64 0) := (blk_cell BK168.out 2).trans rfl; have hfz23_0 := blk_frozen BK168.out 0; have hfz23_1 := blk_frozen BK168.out 1; have hfz23_2 := blk_frozen BK168.out 2; have hcz24_0 : w21.cell? ⟨gb164, 0, none⟩ = some (.int .i64 a0_0) := (blk_cell BK164.out 0).trans rfl; have hcz24_1 : w21.cell? ⟨gb164, 1, none⟩ = some (.int .i64 a0_1) := (blk_cell BK164.out 1).trans rfl; have hcz24_2 : w21.cell? ⟨gb164, 2, none⟩ = some (.int .i64 a0_2) := (blk_cell BK164.out 2).trans rfl; have hcz24_3 : w21.cell? ⟨gb164, 3, none⟩ = some (.slice (some ad167) l0_3.length c0_3) := (blk_cell BK164.out 3).trans rfl; have hfz24_0 := blk_frozen BK164.out 0; have hfz24_1 := blk_frozen BK164.out 1; have hfz24_2 := blk_frozen BK164.out 2; have hfz24_3 := blk_frozen BK164.out 3; have p169 : 0 ≤ (x9_3 : Int) := of_decide_eq_true (by first | (with_reducible assumption) | assumption); have q169 : x9_3 < (l0_3.length : Int) := of_decide_eq_true (by first | (with_reducible assumption) | assumption); obtain ⟨ad169, e169, hx169_0, hx169_1, hx169_2⟩ := at_T30 (Kd.C_kept_now HR0_3.out (show Kept w (((w21.setCell ⟨gb168, 0, none⟩ (.int .i64 ((rd_T30 l0_3 t166).f0))).setCell ⟨gb168, 1, none⟩ (.int .i64 ((rd_T30 l0_3 t166).f1))).setCell ⟨gb168, 2, none⟩ (.int .i64 ((rd_T30 l0_3 t166).f2))) (fun k_ => P1_ k_) from by repeat (first | (with_reducible first | exact HK.out | apply Kept.alloc | apply Kept.drewN | apply Kept.drew | refine Kept.setCell ?_ (.inr GW164.out) _ | refine Kept.setCell ?_ (.inr GW168.out) _) | exact HK.out))) x9_3 p169 q169; obtain rfl : ad167 = ad169 := (by injection e169); replace p169 := eq_true p169; replace q169 := eq_true q169) | ((with_reducible refine gate_dst (N := 11) rfl ?_); (try (refine gate_guard (by rfl) ?_; dsimp only)); refine box_event ?hg (N := 11) ?hd (cs := #[.int .i64 0, .int .i64 0, .int .i64 0]) (t := 30) ?hr ?_; (case hd => rfl); (case hg => rfl); (case hr => first | (go_simp; done) | (go_simp; rfl)); intro gb170 hg w25 hbox hb; have n0_ := Aside0.mk (Kd.R_below (by (with_reducible repeat first | apply Kd.R_alloc | apply Kd.R_drewN | apply Kd.R_drew); exact (Kd.R_mono (Kd.R_far (p := ⟨gb168, 2, none⟩) (Kd.R_far (p := ⟨gb168, 1, none⟩) (Kd.R_far (p := ⟨gb168, 0, none⟩) (Kd.R_types HO_1.out BK168.out (by decide)) (fun _ hk => hk.2) (.int .i64 ((rd_T30 l0_3 t166).f0))) (fun _ hk => hk.2) (.int .i64 ((rd_T30 l0_3 t166).f1))) (fun _ hk => hk.2) (.int .i64 ((rd_T30 l0_3 t166).f2))) (fun _ h_ => h_.1))) hb); have n1_ := Aside0.mk (blk_below (g := gb164) (o := .cells #[.int .i64 a0_0, .int .i64 a0_1, .int .i64 a0_2, .slice (some ad167) l0_3.length c0_3] 26 (0, 0)) (by (with_reducible repeat first | refine blk_drewN ?_ _ | refine blk_drew ?_ | refine blk_alloc ?_ _); refine blk_far ?_ NB164_168.out _; (with_reducible repeat first | refine blk_drewN ?_ _ | refine blk_drew ?_ | refine blk_alloc ?_ _); refine blk_far ?_ NB164_168.out _; (with_reducible repeat first | refine blk_drewN ?_ _ | refine blk_drew ?_ | refine blk_alloc ?_ _); refine blk_far ?_ NB164_168.out _; (with_reducible repeat first | refine blk_drewN ?_ _ | refine blk_drew ?_ | refine blk_alloc ?_ _); exact BK164.out) hb); have n2_ := Aside0.mk (blk_below (g := gb168) (o := .cells #[.int .i64 ((rd_T30 l0_3 t166).f0), .int .i64 ((rd_T30 l0_3 t166).f1), .int .i64 ((rd_T30 l0_3 t166).f2)] 30 (0, 0)) (by (with_reducible repeat first | refine blk_drewN ?_ _ | refine blk_drew ?_ | refine blk_alloc ?_ _); refine blk_put (cs := #[.int .i64 ((rd_T30 l0_3 t166).f0), .int .i64 ((rd_T30 l0_3 t166).f1), .int .i64 0]) ?_ 2 _ rfl; (with_reducible repeat first | refine blk_drewN ?_ _ | refine blk_drew ?_ | refine blk_alloc ?_ _); refine blk_put (cs := #[.int .i64 ((rd_T30 l0_3 t166).f0), .int .i64 0, .int .i64 0]) ?_ 1 _ rfl; (with_reducible repeat first | refine blk_drewN ?_ _ | refine blk_drew ?_ | refine blk_alloc ?_ _); refine blk_put (cs := #[.int .i64 0, .int .i64 0, .int .i64 0]) ?_ 0 _ rfl; (with_reducible repeat first | refine blk_drewN ?_ _ | refine blk_drew ?_ | refine blk_alloc ?_ _); exact BK168.out) hb); have n3_ := Aside0.mk (Kept.below (S := (fun k_ => P1_ k_)) (by repeat (first | (with_reducible first | exact HK.out | apply Kept.alloc | apply Kept.drewN | apply Kept.drew | refine Kept.setCell ?_ (.inr GW164.out) _ | refine Kept.setCell ?_ (.inr GW168.out) _) | exact HK.out)) hb); have n4_ := Aside0.mk (below_step (by repeat (first | (with_reducible first | exact HB.out | apply below_alloc | apply pw_below_drewN | apply below_drew1 | refine below_set ?_ GE164.out | refine below_set ?_ GE168.out) | exact HB.out)) hb); have n5_ := Aside0.mk (hbox); have n6_ := Aside0.mk ((by rw [hg]; exact (show Kept w _ (fun k_ => P1_ k_) from by repeat (first | (with_reducible first | exact HK.out | apply Kept.alloc | apply Kept.drewN | apply Kept.drew | refine Kept.setCell ?_ (.inr GW164.out) _ | refine Kept.setCell ?_ (.inr GW168.out) _) | exact HK.out)).1 : w.heap.size ≤ gb170)); have n7_ := Aside0.mk ((by rw [hg]; exact (below_size (by repeat (first | (with_reducible first | exact HB.out | apply below_alloc | apply pw_below_drewN | apply below_drew1 | refine below_set ?_ GE164.out | refine below_set ?_ GE168.out) | exact HB.out))) : w0.heap.size ≤ gb170)); have n8_ := Aside0.mk ((by rw [hg]; exact Nat.ne_of_lt (blk_lt (g := gb164) (o := .cells #[.int .i64 a0_0, .int .i64 a0_1, .int .i64 a0_2, .slice (some ad167) l0_3.length c0_3] 26 (0, 0)) (by (with_reducible repeat first | refine blk_drewN ?_ _ | refine blk_drew ?_ | refine blk_alloc ?_ _); refine blk_far ?_ NB164_168.out _; (with_reducible repeat first | refine blk_drewN ?_ _ | refine blk_drew ?_ | refine blk_alloc ?_ _); refine blk_far ?_ NB164_168.out _; (with_reducible repeat first | refine blk_drewN ?_ _ | refine blk_drew ?_ | refine blk_alloc ?_ _); refine blk_far ?_ NB164_168.out _; (with_reducible repeat first | refine blk_drewN ?_ _ | refine blk_drew ?_ | refine blk_alloc ?_ _); exact BK164.out)) : gb164 ≠ gb170)); have n9_ := Aside0.mk ((by rw [hg]; exact Nat.ne_of_gt (blk_lt (g := gb164) (o := .cells #[.int .i64 a0_0, .int .i64 a0_1, .int .i64 a0_2, .slice (some ad167) l0_3.length c0_3] 26 (0, 0)) (by (with_reducible repeat first | refine blk_drewN ?_ _ | refine blk_drew ?_ | refine blk_alloc ?_ _); refine blk_far ?_ NB164_168.out _; (with_reducible repeat first | refine blk_drewN ?_ _ | refine blk_drew ?_ | refine blk_alloc ?_ _); refine blk_far ?_ NB164_168.out _; (with_reducible repeat first | refine blk_drewN ?_ _ | refine blk_drew ?_ | refine blk_alloc ?_ _); refine blk_far ?_ NB164_168.out _; (with_reducible repeat first | refine blk_drewN ?_ _ | refine blk_drew ?_ | refine blk_alloc ?_ _); exact BK164.out)) : gb170 ≠ gb164)); have n10_ := Aside0.mk ((by rw [hg]; exact Nat.ne_of_lt (blk_lt (g := gb168) (o := .cells #[.int .i64 ((rd_T30 l0_3 t166).f0), .int .i64 ((rd_T30 l0_3 t166).f1), .int .i64 ((rd_T30 l0_3 t166).f2)] 30 (0, 0)) (by (with_reducible repeat first | refine blk_drewN ?_ _ | refine blk_drew ?_ | refine blk_alloc ?_ _); refine blk_put (cs := #[.int .i64 ((rd_T30 l0_3 t166).f0), .int .i64 ((rd_T30 l0_3 t166).f1), .int .i64 0]) ?_ 2 _ rfl; (with_reducible repeat first | refine blk_drewN ?_ _ | refine blk_drew ?_ | refine blk_alloc ?_ _); refine blk_put (cs := #[.int .i64 ((rd_T30 l0_3 t166).f0), .int .i64 0, .int .i64 0]) ?_ 1 _ rfl; (with_reducible repeat first | refine blk_drewN ?_ _ | refine blk_drew ?_ | refine blk_alloc ?_ _); refine blk_put (cs := #[.int .i64 0, .int .i64 0, .int .i64 0]) ?_ 0 _ rfl; (with_reducible repeat first | refine blk_drewN ?_ _ | refine blk_drew ?_ | refine blk_alloc ?_ _); exact BK168.out)) : gb168 ≠ gb170)); have n11_ := Aside0.mk ((by rw [hg]; exact Nat.ne_of_gt (blk_lt (g := gb168) (o := .cells #[.int .i64 ((rd_T30 l0_3 t166).f0), .int .i64 ((rd_T30 l0_3 t166).f1), .int .i64 ((rd_T30 l0_3 t166).f2)] 30 (0, 0)) (by (with_reducible repeat first | refine blk_drewN ?_ _ | refine blk_drew ?_ | refine blk_alloc ?_ _); refine blk_put (cs := #[.int .i64 ((rd_T30 l0_3 t166).f0), .int .i64 ((rd_T30 l0_3 t166).f1), .int .i64 0]) ?_ 2 _ rfl; (with_reducible repeat first | refine blk_drewN ?_ _ | refine blk_drew ?_ | refine blk_alloc ?_ _); refine blk_put (cs := #[.int .i64 ((rd_T30 l0_3 t166).f0), .int .i64 0, .int .i64 0]) ?_ 1 _ rfl; (with_reducible repeat first | refine blk_drewN ?_ _ | refine blk_drew ?_ | refine blk_alloc ?_ _); refine blk_put (cs := #[.int .i64 0, .int .i64 0, .int .i64 0]) ?_ 0 _ rfl; (with_reducible repeat first | refine blk_drewN ?_ _ | refine blk_drew ?_ | refine blk_alloc ?_ _); exact BK168.out)) : gb170 ≠ gb168)); clear HO_1; clear BK164; clear BK168; clear HK; clear HB; have HO_1 := n0_; have BK164 := n1_; have BK168 := n2_; have HK := n3_; have HB := n4_; have BK170 := n5_; have GW170 := n6_; have GE170 := n7_; have NB164_170 := n8_; have NB170_164 := n9_; have NB168_170 := n10_; have NB170_168 := n11_; clear n0_ n1_ n2_ n3_ n4_ n5_ n6_ n7_ n8_ n9_ n10_ n11_; clear hb hbox hg; have hnb26 := NB170_164.out; have hnc26 := NB164_170.out; have hnb27 := NB170_168.out; have hnc27 := NB168_170.out; have hcz28_0 : w25.cell? ⟨gb170, 0, none⟩ = some (.int .i64 0) := (blk_cell BK170.out 0).trans rfl; have hcz28_1 : w25.cell? ⟨gb170, 1, none⟩ = some (.int .i64 0) := (blk_cell BK170.out 1).trans rfl; have hcz28_2 : w25.cell? ⟨gb170, 2, none⟩ = some (.int .i64 0) := (blk_cell BK170.out 2).trans rfl; have hfz28_0 := blk_frozen BK170.out 0; have hfz28_1 := blk_frozen BK170.out 1; have hfz28_2 := blk_frozen BK170.out 2))
               (try simp only [Act.put, sA_, sZ_, sS_]); (go_cut [60] (fun v60 wc => ∃ (kq : Nat) (x60_18 : Bool), v60 = .bool x60_18 ∧ Aside0 (racewaylaw15_circled.j3 kq x1_3 l2 x7_1 t166 x9_3 x60_18 a0_0 a0_1 a0_2 l0_3 ((rd_T30 l0_3 t166).f0) ((rd_T30 l0_3 t166).f1) ((rd_T30 l0_3 t166).f2) ((rd_T30 l0_3 x9_3).f0) ((rd_T30 l0_3 x9_3).f1) ((rd_T30 l0_3 x9_3).f2) = some r) ∧ Aside0 (kq ≤ k3) ∧ Aside0 (Kd.R (Kd.int .i64) 2 wc w0.heap.size (fun k_ => (P1_ k_ ∨ w.heap.size ≤ k_)) (.slice Ao13 x1_3.length co13) x1_3) ∧ Aside0 (wc.heap[gb164]? = some (.cells #[.int .i64 a0_0, .int .i64 a0_1, .int .i64 a0_2, (.slice (some ad167) l0_3.length c0_3)] 26 (0, 0))) ∧ Aside0 (wc.heap[gb168]? = some (.cells #[.int .i64 ((rd_T30 l0_3 t166).f0), .int .i64 ((rd_T30 l0_3 t166).f1), .int .i64 ((rd_T30 l0_3 t166).f2)] 30 (0, 0))) ∧ Aside0 (wc.heap[gb170]? = some (.cells #[.int .i64 ((rd_T30 l0_3 x9_3).f0), .int .i64 ((rd_T30 l0_3 x9_3).f1), .int .i64 ((rd_T30 l0_3 x9_3).f2)] 30 (0, 0))) ∧ Aside0 (Kept w wc (fun k_ => P1_ k_)) ∧ Aside0 (Below w0.heap.size w0 wc)))
               case first =>
                ((have H := HC19.out);(clear HC19)); (by_cases c29 : t166 = x9_3)
                ·(rw [if_pos c29] at H);(have c29b0 : (t166 == x9_3) = true := beq_iff_eq.mpr c29);(have c29b1 : (t166 != x9_3) = false := bne_eq_false_iff_eq.mpr c29);(clear c29);((first | rw [c29b0] | (simp only [i64_w, i32_w]; rw [c29b0]) | skip))
                 as_aux_lemma =>
                  ((have H' := Aside0.mk H);(clear H);(have hnb30 := NB168_164.out);(have hnc30 := NB164_168.out);(have hnb31 := NB168_170.out);(have hnc31 := NB170_168.out);(have hcz32_0 : w25.cell? ⟨gb168, 0, none⟩ = some (.int .i64 ((rd_T30 l0_3 t166).f0)) := (blk_cell BK168.out 0).trans rfl);(have hcz32_1 : w25.cell? ⟨gb168, 1, none⟩ = some (.int .i64 ((rd_T30 l0_3 t166).f1)) := (blk_cell BK168.out 1).trans rfl);(have hcz32_2 : w25.cell? ⟨gb168, 2, none⟩ = some (.int .i64 ((rd_T30 l0_3 t166).f2)) := (blk_cell BK168.out 2).trans rfl);(have hfz32_0 := blk_frozen BK168.out 0);(have hfz32_1 := blk_frozen BK168.out 1);(have hfz32_2 := blk_frozen BK168.out 2)); (go_wp2); (go_meet)
                  case rel => exact ⟨_, ((((rd_T30 l0_3 t166).f0) == ((rd_T30 l0_3 t166).f1))), (by first | rfl | (simp; done) | (simp [*]; done)), H', ⟨by have := HK1.out; have := HJ4.out; have := HK3.out; first | omega | exact Nat.le_refl _⟩, ⟨by (try simp only [hl1_3]); (with_reducible repeat first | apply Kd.R_alloc | apply Kd.R_drewN | apply Kd.R_drew); exact Kd.R_mono (Kd.R_far (p := ⟨gb170, 2, none⟩) (Kd.R_far (p := ⟨gb170, 1, none⟩) (Kd.R_far (p := ⟨gb170, 0, none⟩) (Kd.R_types HO_1.out BK170.out (by decide)) (fun _ hk => hk.2) (.int .i64 ((rd_T30 l0_3 x9_3).f0))) (fun _ hk => hk.2) (.int .i64 ((rd_T30 l0_3 x9_3).f1))) (fun _ hk => hk.2) (.int .i64 ((rd_T30 l0_3 x9_3).f2))) (fun _ hk => hk.1)⟩, ⟨by (try simp only [hl1_3]); (with_reducible repeat first | refine blk_drewN ?_ _ | refine blk_drew ?_ | refine blk_alloc ?_ _); refine blk_far ?_ NB164_170.out _; (with_reducible repeat first | refine blk_drewN ?_ _ | refine blk_drew ?_ | refine blk_alloc ?_ _); refine blk_far ?_ NB164_170.out _; (with_reducible repeat first | refine blk_drewN ?_ _ | refine blk_drew ?_ | refine blk_alloc ?_ _); refine blk_far ?_ NB164_170.out _; (with_reducible repeat first | refine blk_drewN ?_ _ | refine blk_drew ?_ | refine blk_alloc ?_ _); exact BK164.out⟩, ⟨by (try simp only [hl1_3]); (with_reducible repeat first | refine blk_drewN ?_ _ | refine blk_drew ?_ | refine blk_alloc ?_ _); refine blk_far ?_ NB168_170.out _; (with_reducible repeat first | refine blk_drewN ?_ _ | refine blk_drew ?_ | refine blk_alloc ?_ _); refine blk_far ?_ NB168_170.out _; (with_reducible repeat first | refine blk_drewN ?_ _ | refine blk_drew ?_ | refine blk_alloc ?_ _); refine blk_far ?_ NB168_170.out _; (with_reducible repeat first | refine blk_drewN ?_ _ | refine blk_drew ?_ | refine blk_alloc ?_ _); exact BK168.out⟩, ⟨by (try simp only [hl1_3]); (with_reducible repeat first | refine blk_drewN ?_ _ | refine blk_drew ?_ | refine blk_alloc ?_ _); refine blk_put (cs := #[.int .i64 ((rd_T30 l0_3 x9_3).f0), .int .i64 ((rd_T30 l0_3 x9_3).f1), .int .i64 0]) ?_ 2 _ rfl; (with_reducible repeat first | refine blk_drewN ?_ _ | refine blk_drew ?_ | refine blk_alloc ?_ _); refine blk_put (cs := #[.int .i64 ((rd_T30 l0_3 x9_3).f0), .int .i64 0, .int .i64 0]) ?_ 1 _ rfl; (with_reducible repeat first | refine blk_drewN ?_ _ | refine blk_drew ?_ | refine blk_alloc ?_ _); refine blk_put (cs := #[.int .i64 0, .int .i64 0, .int .i64 0]) ?_ 0 _ rfl; (with_reducible repeat first | refine blk_drewN ?_ _ | refine blk_drew ?_ | refine blk_alloc ?_ _); exact BK170.out⟩, ⟨by repeat (first | (with_reducible first | exact HK.out | apply Kept.alloc | apply Kept.drewN | apply Kept.drew | refine Kept.setCell ?_ (.inr GW164.out) _ | refine Kept.setCell ?_ (.inr GW168.out) _ | refine Kept.setCell ?_ (.inr GW170.out) _) | exact HK.out)⟩, ⟨by repeat (first | (with_reducible first | exact HB.out | apply below_alloc | apply pw_below_drewN | apply below_drew1 | refine below_set ?_ GE164.out | refine below_set ?_ GE168.out | refine below_set ?_ GE170.out) | exact HB.out)⟩⟩
                ·(rw [if_neg c29] at H);(have c29b0 : (t166 == x9_3) = false := beq_eq_false_iff_ne.mpr c29);(have c29b1 : (t166 != x9_3) = true := bne_iff_ne.mpr c29);((first | rw [c29b0] | (simp only [i64_w, i32_w]; rw [c29b0]) | skip))
                 as_aux_lemma =>
                  ((have H' := Aside0.mk H);(clear H)); (go_wp2); (go_meet)
                  case rel => exact ⟨_, (false), (by first | rfl | (simp; done) | (simp [*]; done)), H', ⟨by have := HK1.out; have := HJ4.out; have := HK3.out; first | omega | exact Nat.le_refl _⟩, ⟨by (try simp only [hl1_3]); (with_reducible repeat first | apply Kd.R_alloc | apply Kd.R_drewN | apply Kd.R_drew); exact Kd.R_mono (Kd.R_far (p := ⟨gb170, 2, none⟩) (Kd.R_far (p := ⟨gb170, 1, none⟩) (Kd.R_far (p := ⟨gb170, 0, none⟩) (Kd.R_types HO_1.out BK170.out (by decide)) (fun _ hk => hk.2) (.int .i64 ((rd_T30 l0_3 x9_3).f0))) (fun _ hk => hk.2) (.int .i64 ((rd_T30 l0_3 x9_3).f1))) (fun _ hk => hk.2) (.int .i64 ((rd_T30 l0_3 x9_3).f2))) (fun _ hk => hk.1)⟩, ⟨by (try simp only [hl1_3]); (with_reducible repeat first | refine blk_drewN ?_ _ | refine blk_drew ?_ | refine blk_alloc ?_ _); refine blk_far ?_ NB164_170.out _; (with_reducible repeat first | refine blk_drewN ?_ _ | refine blk_drew ?_ | refine blk_alloc ?_ _); refine blk_far ?_ NB164_170.out _; (with_reducible repeat first | refine blk_drewN ?_ _ | refine blk_drew ?_ | refine blk_alloc ?_ _); refine blk_far ?_ NB164_170.out _; (with_reducible repeat first | refine blk_drewN ?_ _ | refine blk_drew ?_ | refine blk_alloc ?_ _); exact BK164.out⟩, ⟨by (try simp only [hl1_3]); (with_reducible repeat first | refine blk_drewN ?_ _ | refine blk_drew ?_ | refine blk_alloc ?_ _); refine blk_far ?_ NB168_170.out _; (with_reducible repeat first | refine blk_drewN ?_ _ | refine blk_drew ?_ | refine blk_alloc ?_ _); refine blk_far ?_ NB168_170.out _; (with_reducible repeat first | refine blk_drewN ?_ _ | refine blk_drew ?_ | refine blk_alloc ?_ _); refine blk_far ?_ NB168_170.out _; (with_reducible repeat first | refine blk_drewN ?_ _ | refine blk_drew ?_ | refine blk_alloc ?_ _); exact BK168.out⟩, ⟨by (try simp only [hl1_3]); (with_reducible repeat first | refine blk_drewN ?_ _ | refine blk_drew ?_ | refine blk_alloc ?_ _); refine blk_put (cs := #[.int .i64 ((rd_T30 l0_3 x9_3).f0), .int .i64 ((rd_T30 l0_3 x9_3).f1), .int .i64 0]) ?_ 2 _ rfl; (with_reducible repeat first | refine blk_drewN ?_ _ | refine blk_drew ?_ | refine blk_alloc ?_ _); refine blk_put (cs := #[.int .i64 ((rd_T30 l0_3 x9_3).f0), .int .i64 0, .int .i64 0]) ?_ 1 _ rfl; (with_reducible repeat first | refine blk_drewN ?_ _ | refine blk_drew ?_ | refine blk_alloc ?_ _); refine blk_put (cs := #[.int .i64 0, .int .i64 0, .int .i64 0]) ?_ 0 _ rfl; (with_reducible repeat first | refine blk_drewN ?_ _ | refine blk_drew ?_ | refine blk_alloc ?_ _); exact BK170.out⟩, ⟨by repeat (first | (with_reducible first | exact HK.out | apply Kept.alloc | apply Kept.drewN | apply Kept.drew | refine Kept.setCell ?_ (.inr GW164.out) _ | refine Kept.setCell ?_ (.inr GW168.out) _ | refine Kept.setCell ?_ (.inr GW170.out) _) | exact HK.out)⟩, ⟨by repeat (first | (with_reducible first | exact HB.out | apply below_alloc | apply pw_below_drewN | apply below_drew1 | refine below_set ?_ GE164.out | refine below_set ?_ GE168.out | refine below_set ?_ GE170.out) | exact HB.out)⟩⟩
               case rest =>
                clear HC19
                try clear c1
                try clear p1
                try clear q1
                try clear hx1
                try clear c2
                try clear p2
                try clear c3
                try clear c6
                try clear c6b0
                try clear c7
                try clear c7b0
                try clear c9
                try clear c10
                try clear c10b0
                try clear c11
                try clear c11b0
                try clear c12
                try clear c14
                try clear c14b0
                try clear c15
                try clear c15b0
                try clear c16
                try clear c16b0
                try clear p16
                try clear q16
                try clear hx16
                try clear c17
                try clear c17b0
                try clear c18
                try clear c18b0
                try clear c22
                try clear c26
                try clear c27
                try clear c29
                try clear c29b0
                try clear c29b1
                try clear c30
                try clear c31
                try clear hcz20_0
                try clear hcz20_1
                try clear hcz20_2
                try clear hcz20_3
                try clear hcz23_0
                try clear hcz23_1
                try clear hcz23_2
                try clear hcz24_0
                try clear hcz24_1
                try clear hcz24_2
                try clear hcz24_3
                try clear hcz28_0
                try clear hcz28_1
                try clear hcz28_2
                try clear hcz32_0
                try clear hcz32_1
                try clear hcz32_2
                try clear hfz20_0
                try clear hfz20_1
                try clear hfz20_2
                try clear hfz20_3
                try clear hfz23_0
                try clear hfz23_1
                try clear hfz23_2
                try clear hfz24_0
                try clear hfz24_1
                try clear hfz24_2
                try clear hfz24_3
                try clear hfz28_0
                try clear hfz28_1
                try clear hfz28_2
                try clear hfz32_0
                try clear hfz32_1
                try clear hfz32_2
                try clear hx165_0
                try clear hx167_0
                try clear hx167_1
                try clear hx167_2
                try clear hx169_0
                try clear hx169_1
                try clear hx169_2
                try clear p1
                try clear p165
                try clear p167
                try clear p169
                try clear p2
                try clear q1
                try clear q165
                try clear q167
                try clear q169
                obtain ⟨kq, x60_18, rfl, HA, HJ18, HO_1, BK164, BK168, BK170, HK, HB⟩ := hcut
                cases kq with
                | zero => exact absurd HA.out (by simp [racewaylaw15_circled.j3])
                | succ kj18 =>
                 ((have H := HA.out);(clear HA);(simp only [racewaylaw15_circled.j3] at H);(have HC33 := Aside0.mk H);(clear H)); (go_upto_if 60 with (fail)); (go_cut [] (fun wc => ∃ (kq : Nat) (x1_32 : List Int), Aside0 (racewaylaw15_circled.j4 kq x1_32 l2 x7_1 t166 x9_3 a0_0 a0_1 a0_2 l0_3 ((rd_T30 l0_3 t166).f0) ((rd_T30 l0_3 t166).f1) ((rd_T30 l0_3 t166).f2) ((rd_T30 l0_3 x9_3).f0) ((rd_T30 l0_3 x9_3).f1) ((rd_T30 l0_3 x9_3).f2) = some r) ∧ Aside0 (kq ≤ kj18) ∧ Aside0 (Kd.R (Kd.int .i64) 2 wc w0.heap.size (fun k_ => (P1_ k_ ∨ w.heap.size ≤ k_)) (.slice Ao13 x1_3.length co13) x1_32) ∧ Aside0 (wc.heap[gb164]? = some (.cells #[.int .i64 a0_0, .int .i64 a0_1, .int .i64 a0_2, (.slice (some ad167) l0_3.length c0_3)] 26 (0, 0))) ∧ Aside0 (wc.heap[gb168]? = some (.cells #[.int .i64 ((rd_T30 l0_3 t166).f0), .int .i64 ((rd_T30 l0_3 t166).f1), .int .i64 ((rd_T30 l0_3 t166).f2)] 30 (0, 0))) ∧ Aside0 (wc.heap[gb170]? = some (.cells #[.int .i64 ((rd_T30 l0_3 x9_3).f0), .int .i64 ((rd_T30 l0_3 x9_3).f1), .int .i64 ((rd_T30 l0_3 x9_3).f2)] 30 (0, 0))) ∧ Aside0 (Kept w wc (fun k_ => P1_ k_)) ∧ Aside0 (Below w0.heap.size w0 wc)))
                 case first =>
                  ((have H := HC33.out);(clear HC33)); (by_cases c34 : x60_18 = true)
                  ·(subst c34);(have H1 : (if 0 ≤ t166 then (if t166 < (x1_3.length : Int) then (if 0 ≤ x7_1 then (if x7_1 < (l2.length : Int) then ((racewaylaw15_pick.f (rd l2 x7_1) 5).bind fun t174 => (racewaylaw15_circled.j4 kj18 (x1_3.set (t166 : Int).toNat (wrap64 ((rd x1_3 t166) + (mn (wrap64 (((rd_T30 l0_3 t166).f2) - (rd x1_3 t166))) (wrap64 (1 + t174)))))) l2 x7_1 t166 x9_3 a0_0 a0_1 a0_2 l0_3 ((rd_T30 l0_3 t166).f0) ((rd_T30 l0_3 t166).f1) ((rd_T30 l0_3 t166).f2) ((rd_T30 l0_3 x9_3).f0) ((rd_T30 l0_3 x9_3).f1) ((rd_T30 l0_3 x9_3).f2))) else (none)) else (none)) else (none)) else (none)) = some r := by rw [if_pos rfl] at H; exact H);(clear H);(have H := H1);(clear H1)
                   by_cases c35 : 0 ≤ t166
                   ·(rw [if_pos c35] at H);(have c35b0 : decide (0 ≤ t166) = true := decide_eq_true c35);(clear c35);((first | rw [c35b0] | (simp only [i64_w, i32_w]; rw [c35b0]) | skip))
                    by_cases c36 : t166 < (x1_3.length : Int)
                    ·(rw [if_pos c36] at H);(have c36b0 : decide (t166 < (x1_3.length : Int)) = true := decide_eq_true c36);(clear c36)
                     by_cases c37 : 0 ≤ x7_1
                     ·(rw [if_pos c37] at H);(have c37b0 : decide (0 ≤ x7_1) = true := decide_eq_true c37);(clear c37)
                      by_cases c38 : x7_1 < (l2.length : Int)
                      ·(rw [if_pos c38] at H);(have c38b0 : decide (x7_1 < (l2.length : Int)) = true := decide_eq_true c38);(clear c38);(replace H := Option.bind_eq_some_iff.mp H);(obtain ⟨t174, A390, H⟩ := H);(replace H : (racewaylaw15_circled.j4 kj18 (x1_3.set (t166 : Int).toNat (wrap64 ((rd x1_3 t166) + (mn (wrap64 (((rd_T30 l0_3 t166).f2) - (rd x1_3 t166))) (wrap64 (1 + t174)))))) l2 x7_1 t166 x9_3 a0_0 a0_1 a0_2 l0_3 ((rd_T30 l0_3 t166).f0) ((rd_T30 l0_3 t166).f1) ((rd_T30 l0_3 t166).f2) ((rd_T30 l0_3 x9_3).f0) ((rd_T30 l0_3 x9_3).f1) ((rd_T30 l0_3 x9_3).f2)) = some r := H);(have A39 := Aside0.mk A390);(clear A390);(obtain ⟨ji40, hji40⟩ : ∃ j_ : Int, (mn (wrap64 (((rd_T30 l0_3 t166).f2) - (rd x1_3 t166))) (wrap64 (1 + t174))) = j_ := ⟨_, rfl⟩);(replace H : (racewaylaw15_circled.j4 kj18 (x1_3.set (t166 : Int).toNat (wrap64 ((rd x1_3 t166) + (ji40)))) l2 x7_1 t166 x9_3 a0_0 a0_1 a0_2 l0_3 ((rd_T30 l0_3 t166).f0) ((rd_T30 l0_3 t166).f1) ((rd_T30 l0_3 t166).f2) ((rd_T30 l0_3 x9_3).f0) ((rd_T30 l0_3 x9_3).f1) ((rd_T30 l0_3 x9_3).f2)) = some r := by first | (rw [hji40] at H; exact H) | (simp only [hji40] at H ⊢; exact H));((try rw [hji40] at A39));(have hji40_ : (if (wrap64 (1 + t174)) < (wrap64 (((rd_T30 l0_3 t166).f2) - (rd x1_3 t166))) then (wrap64 (1 + t174)) else (wrap64 (((rd_T30 l0_3 t166).f2) - (rd x1_3 t166)))) = ji40 := hji40);(obtain ⟨y175, hy175⟩ : ∃ y_ : List Int, y_ = (x1_3.set (t166 : Int).toNat (wrap64 ((rd x1_3 t166) + (ji40)))) := ⟨_, rfl⟩);(replace H : (racewaylaw15_circled.j4 kj18 y175 l2 x7_1 t166 x9_3 a0_0 a0_1 a0_2 l0_3 ((rd_T30 l0_3 t166).f0) ((rd_T30 l0_3 t166).f1) ((rd_T30 l0_3 t166).f2) ((rd_T30 l0_3 x9_3).f0) ((rd_T30 l0_3 x9_3).f1) ((rd_T30 l0_3 x9_3).f2)) = some r := by first | (rw [hy175]; with_reducible exact H) | (have H2_ := (Option.bind_some _ _).symm.trans H; rw [hy175]; with_reducible exact H2_) | (have H2_ := (Option.bind_some _ _).symm.trans H; with_reducible exact H2_) | with_reducible exact H | (rw [hy175]; exact H) | exact H);(have Ny175 := Aside0.mk hy175);(clear hy175)
                       as_aux_lemma =>
                        (have H' := Aside0.mk H);(clear H)
                        try go_wp2
                        ((have n0_ := Aside0.mk (Kd.R_drew HO_1.out));(have n1_ := Aside0.mk (blk_drew BK164.out));(have n2_ := Aside0.mk (blk_drew BK168.out));(have n3_ := Aside0.mk (blk_drew BK170.out));(have n4_ := Aside0.mk (Kept.drew HK.out));(have n5_ := Aside0.mk (below_drew1 HB.out));(clear HO_1);(clear BK164);(clear BK168);(clear BK170);(clear HK);(clear HB);(have HO_1 := n0_);(have BK164 := n1_);(have BK168 := n2_);(have BK170 := n3_);(have HK := n4_);(have HB := n5_);(clear n0_ n1_ n2_ n3_ n4_ n5_);(have p171 : 0 ≤ (t166 : Int) := of_decide_eq_true (by first | (with_reducible assumption) | assumption));(have q171 : t166 < (x1_3.length : Int) := of_decide_eq_true (by first | (with_reducible assumption) | assumption));(obtain ⟨ad171, e171, hx171_0⟩ := Kd.at_int (Kd.R_reads' HO_1.out).2.2 t166 p171 q171);(cases e171);(replace p171 := eq_true p171);(replace q171 := eq_true q171);(have p172 : 0 ≤ (t166 : Int) := of_decide_eq_true (by first | (with_reducible assumption) | assumption));(have q172 : t166 < (x1_3.length : Int) := of_decide_eq_true (by first | (with_reducible assumption) | assumption));(obtain ⟨ad172, e172, hx172_0⟩ := Kd.at_int (Kd.R_reads' HO_1.out).2.2 t166 p172 q172);(obtain rfl : ad171 = ad172 := (by injection e172));(replace p172 := eq_true p172);(replace q172 := eq_true q172);(have p173 : 0 ≤ (x7_1 : Int) := of_decide_eq_true (by first | (with_reducible assumption) | assumption));(have q173 : x7_1 < (l2.length : Int) := of_decide_eq_true (by first | (with_reducible assumption) | assumption));(obtain ⟨ad173, e173, hx173_0⟩ := Kd.at_int (Kd.C_kept_now HR2.out HK.out) x7_1 p173 q173);(have hw173_0 := hx173_0);(obtain rfl : ad165 = ad173 := (by injection e173));(replace p173 := eq_true p173);(replace q173 := eq_true q173);(refine start_ (n := 23) (S := fun w' => w'.cell? ⟨gb168, 0, none⟩ = some (.int .i64 ((rd_T30 l0_3 t166).f0)) ∧ w'.cell? ⟨gb168, 1, none⟩ = some (.int .i64 ((rd_T30 l0_3 t166).f1)) ∧ w'.cell? ⟨gb168, 2, none⟩ = some (.int .i64 ((rd_T30 l0_3 t166).f2)) ∧ w'.cell? (ad171.add (t166).toNat) = some (.int .i64 (rd x1_3 t166)) ∧ w'.cell? (ad171.add (t166).toNat) = some (.int .i64 (rd x1_3 t166)) ∧ w'.cell? (ad165.add (x7_1).toNat) = some (.int .i64 (rd l2 x7_1))) (ds := [22]) #[F,F,F,F,F,F,F,F,F,F,F,F,F,F,F,F,F,F,F,F,F,F,F] (by kernel_rfl) rfl rfl ⟨(blk_cell BK168.out 0).trans rfl, (blk_cell BK168.out 1).trans rfl, (blk_cell BK168.out 2).trans rfl, hx171_0, hx172_0, (Kd.foot_int (HR2.out _ (by repeat (first | exact HK.out | apply Kept.alloc | apply Kept.drewN | apply Kept.drew | refine Kept.setCell ?_ HMgo41.out _))) x7_1 (of_eq_true p173) (of_eq_true q173))⟩ (fun hHeld => ?_); refine with_tabW racewaylaw15_circled.tab11 racewaylaw15_circled.bits11 (fun HT_ HW_ => ?_));(generalize wc.drew = w42 at HO_1 BK164 BK168 BK170 HK HB hx171_0 hx172_0 hx173_0 hHeld ⊢);(refine pure_ (i := 0) (N := some 61) (v := ?_) (a' := ?_) #[T,F,F,F,F,F,F,F,F,F,F,F,F,F,F,F,F,F,F,F,F,F,F] rfl rfl (any_of HT_.out (by kernel_rfl)) (fun _ _ _ h => h) (Or.inl ⟨by rfl, ?_⟩) ?_ ?_)); rotate_left; (·intro w'; go_simp; with_reducible rfl); rotate_left; (·(simp only [Act.put, sA_, sZ_, sS_, i64_w, i32_w]); rfl); (refine pure_ (i := 1) (N := some 62) (v := ?_) (a' := ?_) #[T,T,F,F,F,F,F,F,F,F,F,F,F,F,F,F,F,F,F,F,F,F,F] rfl rfl (any_of HT_.out (by kernel_rfl)) (fun _ _ _ h => h) (Or.inl ⟨by rfl, ?_⟩) ?_ ?_); rotate_left; (·intro w'; go_simp; with_reducible rfl); rotate_left; (·(simp only [Act.put, sA_, sZ_, sS_, i64_w, i32_w]); rfl); (refine pure_ (i := 2) (N := some 63) (v := ?_) (a' := ?_) #[T,T,T,F,F,F,F,F,F,F,F,F,F,F,F,F,F,F,F,F,F,F,F] rfl rfl (any_of HT_.out (by kernel_rfl)) (fun _ _ _ h => h) (Or.inl ⟨by rfl, ?_⟩) ?_ ?_); rotate_left; (·intro w'; go_simp; with_reducible rfl); rotate_left; (·(simp only [Act.put, sA_, sZ_, sS_, i64_w, i32_w]); rfl); (refine pure_ (i := 3) (N := some 64) (v := ?_) (a' := ?_) #[T,T,T,T,F,F,F,F,F,F,F,F,F,F,F,F,F,F,F,F,F,F,F] rfl rfl (any_of HT_.out (by kernel_rfl)) (fun _ _ _ h => h) (Or.inl ⟨by rfl, ?_⟩) ?_ ?_); rotate_left; (·intro w'; go_simp; with_reducible rfl); rotate_left; (·(simp only [Act.put, sA_, sZ_, sS_, i64_w, i32_w]); rfl); (refine pure_ (i := 4) (N := some 65) (v := ?_) (a' := ?_) #[T,T,T,T,T,F,F,F,F,F,F,F,F,F,F,F,F,F,F,F,F,F,F] rfl rfl (any_of HT_.out (by kernel_rfl)) (fun _ _ _ h => h) (Or.inl ⟨by rfl, ?_⟩) ?_ ?_); rotate_left; (·intro w'; go_simp; with_reducible rfl); rotate_left; (·(simp only [Act.put, sA_, sZ_, sS_, i64_w, i32_w]); rfl); (refine pure_ (i := 6) (N := some 67) (v := ?_) (a' := ?_) #[T,T,T,T,T,F,T,F,F,F,F,F,F,F,F,F,F,F,F,F,F,F,F] rfl rfl (any_of HT_.out (by kernel_rfl)) (fun _ _ _ h => h) (Or.inl ⟨by rfl, ?_⟩) ?_ ?_); rotate_left; (·intro w'; go_simp; with_reducible rfl); rotate_left; (·(simp only [Act.put, sA_, sZ_, sS_, i64_w, i32_w]); rfl); (refine pure_ (i := 8) (N := some 69) (v := ?_) (a' := ?_) #[T,T,T,T,T,F,T,F,T,F,F,F,F,F,F,F,F,F,F,F,F,F,F] rfl rfl (any_of HT_.out (by kernel_rfl)) (fun _ _ _ h => h) (Or.inl ⟨by rfl, ?_⟩) ?_ ?_)
                        rotate_left; (·intro w'; go_simp; with_reducible rfl); rotate_left; (·(simp only [Act.put, sA_, sZ_, sS_, i64_w, i32_w]); rfl); (refine pure_ (i := 9) (N := some 70) (v := ?_) (a' := ?_) #[T,T,T,T,T,F,T,F,T,T,F,F,F,F,F,F,F,F,F,F,F,F,F] rfl rfl (any_of HT_.out (by kernel_rfl)) (fun _ _ _ h => h) (Or.inl ⟨by rfl, ?_⟩) ?_ ?_); rotate_left; (·intro w'; go_simp; with_reducible rfl); rotate_left; (·(simp only [Act.put, sA_, sZ_, sS_, i64_w, i32_w]); rfl); (refine pure_ (i := 10) (N := some 71) (v := ?_) (a' := ?_) #[T,T,T,T,T,F,T,F,T,T,T,F,F,F,F,F,F,F,F,F,F,F,F] rfl rfl (any_of HT_.out (by kernel_rfl)) (fun _ _ _ h => h) (Or.inl ⟨by rfl, ?_⟩) ?_ ?_); rotate_left; (·intro w'; go_simp; with_reducible rfl); rotate_left; (·(simp only [Act.put, sA_, sZ_, sS_, i64_w, i32_w]); rfl); (refine pure_ (i := 13) (N := some 74) (v := ?_) (a' := ?_) #[T,T,T,T,T,F,T,F,T,T,T,F,F,T,F,F,F,F,F,F,F,F,F] rfl rfl (any_of HT_.out (by kernel_rfl)) (fun _ _ _ h => h) (Or.inl ⟨by rfl, ?_⟩) ?_ ?_); rotate_left; (·intro w'; go_simp; with_reducible rfl); rotate_left; (·(simp only [Act.put, sA_, sZ_, sS_, i64_w, i32_w]); rfl); (refine pure_ (i := 14) (N := some 75) (v := ?_) (a' := ?_) #[T,T,T,T,T,F,T,F,T,T,T,F,F,T,T,F,F,F,F,F,F,F,F] rfl rfl (any_of HT_.out (by kernel_rfl)) (fun _ _ _ h => h) (Or.inl ⟨by rfl, ?_⟩) ?_ ?_); rotate_left; (·intro w'; go_simp; with_reducible rfl); rotate_left; (·(simp only [Act.put, sA_, sZ_, sS_, i64_w, i32_w]); rfl); (refine pure_ (i := 15) (N := some 76) (v := ?_) (a' := ?_) #[T,T,T,T,T,F,T,F,T,T,T,F,F,T,T,T,F,F,F,F,F,F,F] rfl rfl (any_of HT_.out (by kernel_rfl)) (fun _ _ _ h => h) (Or.inl ⟨by rfl, ?_⟩) ?_ ?_); rotate_left; (·intro w'; go_simp; with_reducible rfl); rotate_left; (·(simp only [Act.put, sA_, sZ_, sS_, i64_w, i32_w]); rfl); (refine take_ (i := 5) (N := some 66) (v := ?_) (a' := ?_) #[T,T,T,T,T,T,T,F,T,T,T,F,F,T,T,T,F,F,F,F,F,F,F] rfl rfl (take_ofW HT_.out HW_.out (by kernel_rfl)) (fun _ _ _ h => h) (Or.inl ⟨by rfl, ?_⟩) hHeld ?_ ?_); rotate_left; (·(rintro w' ⟨s0, s1, s2, s3, s4, s5⟩); go_simp; with_reducible rfl); rotate_left; (·(simp only [Act.put, sA_, sZ_, sS_, i64_w, i32_w]); rfl); (refine take_ (i := 7) (N := some 68) (v := ?_) (a' := ?_) #[T,T,T,T,T,T,T,T,T,T,T,F,F,T,T,T,F,F,F,F,F,F,F] rfl rfl (take_ofW HT_.out HW_.out (by kernel_rfl)) (fun _ _ _ h => h) (Or.inl ⟨by rfl, ?_⟩) hHeld ?_ ?_); rotate_left; (·(rintro w' ⟨s0, s1, s2, s3, s4, s5⟩); go_simp; with_reducible rfl); rotate_left; (·(simp only [Act.put, sA_, sZ_, sS_, i64_w, i32_w]); rfl); (refine take_ (i := 11) (N := some 72) (v := ?_) (a' := ?_) #[T,T,T,T,T,T,T,T,T,T,T,T,F,T,T,T,F,F,F,F,F,F,F] rfl rfl (take_ofW HT_.out HW_.out (by kernel_rfl)) (fun _ _ _ h => h) (Or.inl ⟨by rfl, ?_⟩) hHeld ?_ ?_); rotate_left; (·(rintro w' ⟨s0, s1, s2, s3, s4, s5⟩); go_simp; with_reducible rfl); rotate_left; (·(simp only [Act.put, sA_, sZ_, sS_, i64_w, i32_w]); rfl); (refine pure_ (i := 12) (N := some 73) (v := ?_) (a' := ?_) #[T,T,T,T,T,T,T,T,T,T,T,T,T,T,T,T,F,F,F,F,F,F,F] rfl rfl (any_of HT_.out (by kernel_rfl)) (fun _ _ _ h => h) (Or.inl ⟨by rfl, ?_⟩) ?_ ?_); rotate_left; (·intro w'; go_simp; with_reducible rfl); rotate_left; (·(simp only [Act.put, sA_, sZ_, sS_, i64_w, i32_w]); rfl); (refine take_ (i := 16) (N := some 77) (v := ?_) (a' := ?_) #[T,T,T,T,T,T,T,T,T,T,T,T,T,T,T,T,T,F,F,F,F,F,F] rfl rfl (take_ofW HT_.out HW_.out (by kernel_rfl)) (fun _ _ _ h => h) (Or.inl ⟨by rfl, ?_⟩) hHeld ?_ ?_); rotate_left; (·(rintro w' ⟨s0, s1, s2, s3, s4, s5⟩); go_simp; with_reducible rfl); rotate_left; (·(simp only [Act.put, sA_, sZ_, sS_, i64_w, i32_w]); rfl); ((refine one_ (i := 17) (N := some 78) #[T,T,T,T,T,T,T,T,T,T,T,T,T,T,T,T,T,T,F,F,F,F,F] rfl rfl (one_of HT_.out (by kernel_rfl)) (by decide) (fun K hK => ?_));(refine goes_ Try.func9 (by kernel_rfl) rfl #[.int .i64 (rd l2 x7_1), .int .i64 5] (by rfl) rfl rfl (by (try simp only [List.map_toArray, List.map_cons, List.map_nil]); first | done | rfl | (simp only [List.length_drop, List.length_take]; rfl)) ?_)); (with_reducible refine (racewaylaw15_pick.calls (rd l2 x7_1) 5 t174 _ A39.out).mono ?_); ((rintro e w' ⟨rfl, ⟨nd, rfl⟩⟩);(refine ⟨_, rfl, ?_⟩);(have p41 : 0 ≤ (t166 : Int) := of_decide_eq_true (by first | (with_reducible assumption) | assumption));(have q41 : (t166 : Int) < ((x1_3.length : Int) : Int) := of_decide_eq_true (by first | (with_reducible assumption) | assumption));(obtain ⟨go41, co41, eo41, gb41, gl41, cl41, HG41⟩ := Kd.R_form HO_1.out (by omega));((first | cases eo41 | (injection eo41 with ea_ en_ ec_; (first | subst ea_ | (injection ea_ with ea_; subst ea_)); subst ec_; clear en_)));(have GB41 := Aside0.mk gb41);(have GG41 := Aside0.mk HG41);(clear gb41 gl41 HG41);(have HMgo41 := Aside0.mk (show (P1_ go41 ∨ w.heap.size ≤ go41) from (HO_1.out.1 _ rfl)));((first | simp only [add_plain] at hx171_0 | skip));((first | simp only [add_plain] at hx172_0 | skip));(obtain ⟨hx41_0, hf41_0⟩ := Kd.R_celln 0 HO_1.out (t166 : Int) p41 q41);(replace p41 := eq_true p41);(replace q41 := eq_true q41);(have HP43 := Kd.R_putn HO_1.out (t166 : Int) (wrap64 ((rd x1_3 t166) + (ji40))));(rw [← Ny175.out] at HP43);(have HQ43 := Aside0.mk HP43);(clear HP43);(refine hK.out _ _ ⟨(blk_cell BK168.out 0).trans rfl, (blk_cell BK168.out 1).trans rfl, (blk_cell BK168.out 2).trans rfl, hHeld.2.2.2.1, hHeld.2.2.2.2.1, (Kd.foot_int (HR2.out _ (by repeat (first | exact HK.out | apply Kept.alloc | apply Kept.drewN | apply Kept.drew | refine Kept.setCell ?_ HMgo41.out _))) x7_1 (of_eq_true p173) (of_eq_true q173))⟩ (fun hHeld => ?_));(clear hK K);(refine norm_ (a' := ?_) ?_ ?_))
                        rotate_left; (·(show Act.put _ (some 78) _ = _); (simp only [Act.put, sA_, sZ_, sS_, i64_w, i32_w]); rfl); (refine pure_ (i := 18) (N := some 79) (v := ?_) (a' := ?_) #[T,T,T,T,T,T,T,T,T,T,T,T,T,T,T,T,T,T,T,F,F,F,F] rfl rfl (any_of HT_.out (by kernel_rfl)) (fun _ _ _ h => h) (Or.inl ⟨by rfl, ?_⟩) ?_ ?_); rotate_left; (·intro w'; go_simp; with_reducible rfl); rotate_left; (·(simp only [Act.put, sA_, sZ_, sS_, i64_w, i32_w]); rfl); (refine pure_ (i := 19) (N := some 80) (v := ?_) (a' := ?_) #[T,T,T,T,T,T,T,T,T,T,T,T,T,T,T,T,T,T,T,T,F,F,F] rfl rfl (any_of HT_.out (by kernel_rfl)) (fun _ _ _ h => h) (Or.inl ⟨by rfl, ?_⟩) ?_ ?_); rotate_left; (·intro w'; go_simp; with_reducible rfl); rotate_left; (·(simp only [Act.put, sA_, sZ_, sS_, i64_w, i32_w]); rfl); (refine pure_ (i := 20) (N := some 81) (v := ?_) (a' := ?_) #[T,T,T,T,T,T,T,T,T,T,T,T,T,T,T,T,T,T,T,T,T,F,F] rfl rfl (any_of HT_.out (by kernel_rfl)) (fun _ _ _ h => h) (Or.inl ⟨by rfl, ?_⟩) ?_ ?_); rotate_left; (·intro w'; go_simp; with_reducible rfl); rotate_left; (·(simp only [Act.put, sA_, sZ_, sS_, i64_w, i32_w]); rfl); (refine pure_ (i := 21) (N := some 82) (v := ?_) (a' := ?_) #[T,T,T,T,T,T,T,T,T,T,T,T,T,T,T,T,T,T,T,T,T,T,F] rfl rfl (any_of HT_.out (by kernel_rfl)) (fun _ _ _ h => h) (Or.inl ⟨by rfl, ?_⟩) ?_ ?_); rotate_left; (·intro w'; go_simp; with_reducible rfl); rotate_left; (·(simp only [Act.put, sA_, sZ_, sS_, i64_w, i32_w]); rfl); ((refine last_ (i := 22) (N := none) #[T,T,T,T,T,T,T,T,T,T,T,T,T,T,T,T,T,T,T,T,T,T,T] rfl rfl (one_of HT_.out (by kernel_rfl)) (by decide) (fun K hK => ?_));(refine skip_ (w1 := ?_) (by rfl) rfl ?_ ?_)); rotate_left; (·go_simp; rfl); ((refine hK.out _ _ ?_);(clear hK K);(refine done_ (done_of HT_.out (by kernel_rfl)) ?_))
                        try go_wp2
                        go_meet
                        case rel => exact ⟨_, (y175), H', ⟨by have := HK1.out; have := HJ4.out; have := HK3.out; have := HJ18.out; first | omega | exact Nat.le_refl _⟩, ⟨by (try simp only [hl1_3]); (with_reducible repeat first | apply Kd.R_alloc | apply Kd.R_drewN | apply Kd.R_drew); exact HQ43.out⟩, ⟨by (try simp only [hl1_3]); (with_reducible repeat first | refine blk_drewN ?_ _ | refine blk_drew ?_ | refine blk_alloc ?_ _); refine blk_far ?_ (by have h_ := Kd.R_ne HO_1.out BK164.out (by decide); intro e_; exact h_ (by rw [e_]; rfl)) _; (with_reducible repeat first | refine blk_drewN ?_ _ | refine blk_drew ?_ | refine blk_alloc ?_ _); exact BK164.out⟩, ⟨by (try simp only [hl1_3]); (with_reducible repeat first | refine blk_drewN ?_ _ | refine blk_drew ?_ | refine blk_alloc ?_ _); refine blk_far ?_ (by have h_ := Kd.R_ne HO_1.out BK168.out (by decide); intro e_; exact h_ (by rw [e_]; rfl)) _; (with_reducible repeat first | refine blk_drewN ?_ _ | refine blk_drew ?_ | refine blk_alloc ?_ _); exact BK168.out⟩, ⟨by (try simp only [hl1_3]); (with_reducible repeat first | refine blk_drewN ?_ _ | refine blk_drew ?_ | refine blk_alloc ?_ _); refine blk_far ?_ (by have h_ := Kd.R_ne HO_1.out BK170.out (by decide); intro e_; exact h_ (by rw [e_]; rfl)) _; (with_reducible repeat first | refine blk_drewN ?_ _ | refine blk_drew ?_ | refine blk_alloc ?_ _); exact BK170.out⟩, ⟨by repeat (first | (with_reducible first | exact HK.out | apply Kept.alloc | apply Kept.drewN | apply Kept.drew | refine Kept.setCell ?_ HMgo41.out _ | refine Kept.setCell ?_ (.inr GW164.out) _ | refine Kept.setCell ?_ (.inr GW168.out) _ | refine Kept.setCell ?_ (.inr GW170.out) _) | exact HK.out)⟩, ⟨by repeat (first | (with_reducible first | exact HB.out | apply below_alloc | apply pw_below_drewN | apply below_drew1 | refine below_set ?_ GB41.out | refine below_set ?_ GE164.out | refine below_set ?_ GE168.out | refine below_set ?_ GE170.out) | exact HB.out)⟩⟩
                      ·(rw [if_neg c38] at H);(exact absurd H (by simp))
                     ·(rw [if_neg c37] at H);(exact absurd H (by simp))
                    ·(rw [if_neg c36] at H);(exact absurd H (by simp))
                   ·(rw [if_neg c35] at H);(exact absurd H (by simp))
                  ·(replace c34 := Bool.eq_false_iff.mpr c34);(subst c34);(have H1 : (racewaylaw15_circled.j4 kj18 x1_3 l2 x7_1 t166 x9_3 a0_0 a0_1 a0_2 l0_3 ((rd_T30 l0_3 t166).f0) ((rd_T30 l0_3 t166).f1) ((rd_T30 l0_3 t166).f2) ((rd_T30 l0_3 x9_3).f0) ((rd_T30 l0_3 x9_3).f1) ((rd_T30 l0_3 x9_3).f2)) = some r := by rw [if_neg (show ¬ (false = true) by decide)] at H; exact H);(clear H);(have H := H1);(clear H1)
                   as_aux_lemma =>
                    ((have H' := Aside0.mk H);(clear H)); (go_wp2); (go_meet)
                    case rel => exact ⟨_, (x1_3), H', ⟨by have := HK1.out; have := HJ4.out; have := HK3.out; have := HJ18.out; first | omega | exact Nat.le_refl _⟩, ⟨by (try simp only [hl1_3]); (with_reducible repeat first | apply Kd.R_alloc | apply Kd.R_drewN | apply Kd.R_drew); exact HO_1.out⟩, ⟨by (try simp only [hl1_3]); (with_reducible repeat first | refine blk_drewN ?_ _ | refine blk_drew ?_ | refine blk_alloc ?_ _); exact BK164.out⟩, ⟨by (try simp only [hl1_3]); (with_reducible repeat first | refine blk_drewN ?_ _ | refine blk_drew ?_ | refine blk_alloc ?_ _); exact BK168.out⟩, ⟨by (try simp only [hl1_3]); (with_reducible repeat first | refine blk_drewN ?_ _ | refine blk_drew ?_ | refine blk_alloc ?_ _); exact BK170.out⟩, ⟨by repeat (first | (with_reducible first | exact HK.out | apply Kept.alloc | apply Kept.drewN | apply Kept.drew | refine Kept.setCell ?_ (.inr GW164.out) _ | refine Kept.setCell ?_ (.inr GW168.out) _ | refine Kept.setCell ?_ (.inr GW170.out) _) | exact HK.out)⟩, ⟨by repeat (first | (with_reducible first | exact HB.out | apply below_alloc | apply pw_below_drewN | apply below_drew1 | refine below_set ?_ GE164.out | refine below_set ?_ GE168.out | refine below_set ?_ GE170.out) | exact HB.out)⟩⟩
                 case rest =>
                  clear HC33
                  try clear c1
                  try clear p1
                  try clear q1
                  try clear hx1
                  try clear c2
                  try clear p2
                  try clear c3
                  try clear p4
                  try clear q4
                  try clear hx4
                  try clear hf4
                  try clear c6
                  try clear c6b0
                  try clear p6
                  try clear c7
                  try clear c7b0
                  try clear c9
                  try clear c10
                  try clear c10b0
                  try clear c11
                  try clear c11b0
                  try clear c12
                  try clear c14
                  try clear c14b0
                  try clear c15
                  try clear c15b0
                  try clear c16
                  try clear c16b0
                  try clear p16
                  try clear q16
                  try clear hx16
                  try clear c17
                  try clear c17b0
                  try clear p17
                  try clear q17
                  try clear hx17
                  try clear c18
                  try clear c18b0
                  try clear c22
                  try clear c26
                  try clear c27
                  try clear c29
                  try clear c29b0
                  try clear c29b1
                  try clear c30
                  try clear c31
                  try clear c34
                  try clear c35
                  try clear c35b0
                  try clear c36
                  try clear c36b0
                  try clear c37
                  try clear c37b0
                  try clear c38
                  try clear c38b0
                  try clear p41
                  try clear q41
                  try clear hx41
                  try clear hf41
                  try clear hcz20_0
                  try clear hcz20_1
                  try clear hcz20_2
                  try clear hcz20_3
                  try clear hcz23_0
                  try clear hcz23_1
                  try clear hcz23_2
                  try clear hcz24_0
                  try clear hcz24_1
                  try clear hcz24_2
                  try clear hcz24_3
                  try clear hcz28_0
                  try clear hcz28_1
                  try clear hcz28_2
                  try clear hcz32_0
                  try clear hcz32_1
                  try clear hcz32_2
                  try clear hfz20_0
                  try clear hfz20_1
                  try clear hfz20_2
                  try clear hfz20_3
                  try clear hfz23_0
                  try clear hfz23_1
                  try clear hfz23_2
                  try clear hfz24_0
                  try clear hfz24_1
                  try clear hfz24_2
                  try clear hfz24_3
                  try clear hfz28_0
                  try clear hfz28_1
                  try clear hfz28_2
                  try clear hfz32_0
                  try clear hfz32_1
                  try clear hfz32_2
                  try clear hx165_0
                  try clear hx167_0
                  try clear hx167_1
                  try clear hx167_2
                  try clear hx169_0
                  try clear hx169_1
                  try clear hx169_2
                  try clear hx171_0
                  try clear hx172_0
                  try clear hx173_0
                  try clear hx41_0
                  try clear p1
                  try clear p16
                  try clear p165
                  try clear p167
                  try clear p169
                  try clear p171
                  try clear p172
                  try clear p173
                  try clear p2
                  try clear p41
                  try clear q1
                  try clear q16
                  try clear q165
                  try clear q167
                  try clear q169
                  try clear q171
                  try clear q172
                  try clear q173
                  try clear q41
                  (obtain ⟨kq, x1_32, HA, HJ32, HO_1, BK164, BK168, BK170, HK, HB⟩ := hcut);(have hl1_32 := (Kd.R_reads' HO_1.out).1);(rw [hl1_32] at HO_1);((try simp only [hl1_32]));((try simp only [hl1_32] at BK164));((try simp only [hl1_32] at BK168));((try simp only [hl1_32] at BK170))
                  cases kq with
                  | zero => exact absurd HA.out (by simp [racewaylaw15_circled.j4])
                  | succ kj32 =>
                   ((have H := HA.out);(clear HA);(simp only [racewaylaw15_circled.j4] at H);(have HC44 := Aside0.mk H);(clear H)); (go_upto_region 12 with (fail)); (go_cut [106] (fun v106 wc => ∃ (kq : Nat) (x106_43 : Bool), v106 = .bool x106_43 ∧ Aside0 (racewaylaw15_circled.j5 kq x1_32 l2 x7_1 t166 x9_3 x106_43 a0_0 a0_1 a0_2 l0_3 ((rd_T30 l0_3 t166).f0) ((rd_T30 l0_3 t166).f1) ((rd_T30 l0_3 t166).f2) ((rd_T30 l0_3 x9_3).f0) ((rd_T30 l0_3 x9_3).f1) ((rd_T30 l0_3 x9_3).f2) = some r) ∧ Aside0 (kq ≤ kj32) ∧ Aside0 (Kd.R (Kd.int .i64) 2 wc w0.heap.size (fun k_ => (P1_ k_ ∨ w.heap.size ≤ k_)) (.slice Ao13 x1_32.length co13) x1_32) ∧ Aside0 (wc.heap[gb164]? = some (.cells #[.int .i64 a0_0, .int .i64 a0_1, .int .i64 a0_2, (.slice (some ad167) l0_3.length c0_3)] 26 (0, 0))) ∧ Aside0 (wc.heap[gb168]? = some (.cells #[.int .i64 ((rd_T30 l0_3 t166).f0), .int .i64 ((rd_T30 l0_3 t166).f1), .int .i64 ((rd_T30 l0_3 t166).f2)] 30 (0, 0))) ∧ Aside0 (wc.heap[gb170]? = some (.cells #[.int .i64 ((rd_T30 l0_3 x9_3).f0), .int .i64 ((rd_T30 l0_3 x9_3).f1), .int .i64 ((rd_T30 l0_3 x9_3).f2)] 30 (0, 0))) ∧ Aside0 (Kept w wc (fun k_ => P1_ k_)) ∧ Aside0 (Below w0.heap.size w0 wc)))
                   case first =>
                    ((have H := HC44.out);(clear HC44)); (by_cases c45 : t166 = x9_3)
                    ·(rw [if_pos c45] at H);(have c45b0 : (t166 == x9_3) = true := beq_iff_eq.mpr c45);(have c45b1 : (t166 != x9_3) = false := bne_eq_false_iff_eq.mpr c45);(clear c45);((first | rw [c45b0] | (simp only [i64_w, i32_w]; rw [c45b0]) | skip))
                     as_aux_lemma =>
                      ((have H' := Aside0.mk H);(clear H)); (go_wp2); (go_meet)
                      case rel => exact ⟨_, (false), (by first | rfl | (simp; done) | (simp [*]; done)), H', ⟨by have := HK1.out; have := HJ4.out; have := HK3.out; have := HJ18.out; have := HJ32.out; first | omega | exact Nat.le_refl _⟩, ⟨by (try simp only [hl1_3]); (try simp only [hl1_32]); (with_reducible repeat first | apply Kd.R_alloc | apply Kd.R_drewN | apply Kd.R_drew); exact HO_1.out⟩, ⟨by (try simp only [hl1_3]); (try simp only [hl1_32]); (with_reducible repeat first | refine blk_drewN ?_ _ | refine blk_drew ?_ | refine blk_alloc ?_ _); exact BK164.out⟩, ⟨by (try simp only [hl1_3]); (try simp only [hl1_32]); (with_reducible repeat first | refine blk_drewN ?_ _ | refine blk_drew ?_ | refine blk_alloc ?_ _); exact BK168.out⟩, ⟨by (try simp only [hl1_3]); (try simp only [hl1_32]); (with_reducible repeat first | refine blk_drewN ?_ _ | refine blk_drew ?_ | refine blk_alloc ?_ _); exact BK170.out⟩, ⟨by repeat (first | (with_reducible first | exact HK.out | apply Kept.alloc | apply Kept.drewN | apply Kept.drew | refine Kept.setCell ?_ (.inr GW164.out) _ | refine Kept.setCell ?_ (.inr GW168.out) _ | refine Kept.setCell ?_ (.inr GW170.out) _) | exact HK.out)⟩, ⟨by repeat (first | (with_reducible first | exact HB.out | apply below_alloc | apply pw_below_drewN | apply below_drew1 | refine below_set ?_ GE164.out | refine below_set ?_ GE168.out | refine below_set ?_ GE170.out) | exact HB.out)⟩⟩
                    ·(rw [if_neg c45] at H);(have c45b0 : (t166 == x9_3) = false := beq_eq_false_iff_ne.mpr c45);(have c45b1 : (t166 != x9_3) = true := bne_iff_ne.mpr c45);((first | rw [c45b0] | (simp only [i64_w, i32_w]; rw [c45b0]) | skip))
                     by_cases c46 : ((rd_T30 l0_3 t166).f0) = ((rd_T30 l0_3 x9_3).f1)
                     ·(rw [if_pos c46] at H);(have c46b0 : (((rd_T30 l0_3 t166).f0) == ((rd_T30 l0_3 x9_3).f1)) = true := beq_iff_eq.mpr c46);(have c46b1 : (((rd_T30 l0_3 t166).f0) != ((rd_T30 l0_3 x9_3).f1)) = false := bne_eq_false_iff_eq.mpr c46);(clear c46)
                      by_cases c47 : ((rd_T30 l0_3 t166).f1) = ((rd_T30 l0_3 x9_3).f0)
                      ·(rw [if_pos c47] at H);(have c47b0 : (((rd_T30 l0_3 t166).f1) == ((rd_T30 l0_3 x9_3).f0)) = true := beq_iff_eq.mpr c47);(have c47b1 : (((rd_T30 l0_3 t166).f1) != ((rd_T30 l0_3 x9_3).f0)) = false := bne_eq_false_iff_eq.mpr c47);(clear c47)
                       as_aux_lemma =>
                        ((have H' := Aside0.mk H);(clear H);(have hnb48 := NB168_164.out);(have hnc48 := NB164_168.out);(have hnb49 := NB168_170.out);(have hnc49 := NB170_168.out);(have hcz50_0 : wc.cell? ⟨gb168, 0, none⟩ = some (.int .i64 ((rd_T30 l0_3 t166).f0)) := (blk_cell BK168.out 0).trans rfl);(have hcz50_1 : wc.cell? ⟨gb168, 1, none⟩ = some (.int .i64 ((rd_T30 l0_3 t166).f1)) := (blk_cell BK168.out 1).trans rfl);(have hcz50_2 : wc.cell? ⟨gb168, 2, none⟩ = some (.int .i64 ((rd_T30 l0_3 t166).f2)) := (blk_cell BK168.out 2).trans rfl);(have hfz50_0 := blk_frozen BK168.out 0);(have hfz50_1 := blk_frozen BK168.out 1);(have hfz50_2 := blk_frozen BK168.out 2);(have hnb51 := NB170_164.out);(have hnc51 := NB164_170.out);(have hcz52_0 : wc.cell? ⟨gb170, 0, none⟩ = some (.int .i64 ((rd_T30 l0_3 x9_3).f0)) := (blk_cell BK170.out 0).trans rfl);(have hcz52_1 : wc.cell? ⟨gb170, 1, none⟩ = some (.int .i64 ((rd_T30 l0_3 x9_3).f1)) := (blk_cell BK170.out 1).trans rfl);(have hcz52_2 : wc.cell? ⟨gb170, 2, none⟩ = some (.int .i64 ((rd_T30 l0_3 x9_3).f2)) := (blk_cell BK170.out 2).trans rfl);(have hfz52_0 := blk_frozen BK170.out 0);(have hfz52_1 := blk_frozen BK170.out 1);(have hfz52_2 := blk_frozen BK170.out 2)); (go_wp2); (go_meet)
                        case rel => exact ⟨_, ((((rd_T30 l0_3 t166).f0) != ((rd_T30 l0_3 t166).f1))), (by first | rfl | (simp; done) | (simp [*]; done)), H', ⟨by have := HK1.out; have := HJ4.out; have := HK3.out; have := HJ18.out; have := HJ32.out; first | omega | exact Nat.le_refl _⟩, ⟨by (try simp only [hl1_3]); (try simp only [hl1_32]); (with_reducible repeat first | apply Kd.R_alloc | apply Kd.R_drewN | apply Kd.R_drew); exact HO_1.out⟩, ⟨by (try simp only [hl1_3]); (try simp only [hl1_32]); (with_reducible repeat first | refine blk_drewN ?_ _ | refine blk_drew ?_ | refine blk_alloc ?_ _); exact BK164.out⟩, ⟨by (try simp only [hl1_3]); (try simp only [hl1_32]); (with_reducible repeat first | refine blk_drewN ?_ _ | refine blk_drew ?_ | refine blk_alloc ?_ _); exact BK168.out⟩, ⟨by (try simp only [hl1_3]); (try simp only [hl1_32]); (with_reducible repeat first | refine blk_drewN ?_ _ | refine blk_drew ?_ | refine blk_alloc ?_ _); exact BK170.out⟩, ⟨by repeat (first | (with_reducible first | exact HK.out | apply Kept.alloc | apply Kept.drewN | apply Kept.drew | refine Kept.setCell ?_ (.inr GW164.out) _ | refine Kept.setCell ?_ (.inr GW168.out) _ | refine Kept.setCell ?_ (.inr GW170.out) _) | exact HK.out)⟩, ⟨by repeat (first | (with_reducible first | exact HB.out | apply below_alloc | apply pw_below_drewN | apply below_drew1 | refine below_set ?_ GE164.out | refine below_set ?_ GE168.out | refine below_set ?_ GE170.out) | exact HB.out)⟩⟩
                      ·(rw [if_neg c47] at H);(have c47b0 : (((rd_T30 l0_3 t166).f1) == ((rd_T30 l0_3 x9_3).f0)) = false := beq_eq_false_iff_ne.mpr c47);(have c47b1 : (((rd_T30 l0_3 t166).f1) != ((rd_T30 l0_3 x9_3).f0)) = true := bne_iff_ne.mpr c47)
                       as_aux_lemma =>
                        ((have H' := Aside0.mk H);(clear H);(have hnb53 := NB168_164.out);(have hnc53 := NB164_168.out);(have hnb54 := NB168_170.out);(have hnc54 := NB170_168.out);(have hcz55_0 : wc.cell? ⟨gb168, 0, none⟩ = some (.int .i64 ((rd_T30 l0_3 t166).f0)) := (blk_cell BK168.out 0).trans rfl);(have hcz55_1 : wc.cell? ⟨gb168, 1, none⟩ = some (.int .i64 ((rd_T30 l0_3 t166).f1)) := (blk_cell BK168.out 1).trans rfl);(have hcz55_2 : wc.cell? ⟨gb168, 2, none⟩ = some (.int .i64 ((rd_T30 l0_3 t166).f2)) := (blk_cell BK168.out 2).trans rfl);(have hfz55_0 := blk_frozen BK168.out 0);(have hfz55_1 := blk_frozen BK168.out 1);(have hfz55_2 := blk_frozen BK168.out 2);(have hnb56 := NB170_164.out);(have hnc56 := NB164_170.out);(have hcz57_0 : wc.cell? ⟨gb170, 0, none⟩ = some (.int .i64 ((rd_T30 l0_3 x9_3).f0)) := (blk_cell BK170.out 0).trans rfl);(have hcz57_1 : wc.cell? ⟨gb170, 1, none⟩ = some (.int .i64 ((rd_T30 l0_3 x9_3).f1)) := (blk_cell BK170.out 1).trans rfl);(have hcz57_2 : wc.cell? ⟨gb170, 2, none⟩ = some (.int .i64 ((rd_T30 l0_3 x9_3).f2)) := (blk_cell BK170.out 2).trans rfl);(have hfz57_0 := blk_frozen BK170.out 0);(have hfz57_1 := blk_frozen BK170.out 1);(have hfz57_2 := blk_frozen BK170.out 2)); (go_wp2); (go_meet)
                        case rel => exact ⟨_, (false), (by first | rfl | (simp; done) | (simp [*]; done)), H', ⟨by have := HK1.out; have := HJ4.out; have := HK3.out; have := HJ18.out; have := HJ32.out; first | omega | exact Nat.le_refl _⟩, ⟨by (try simp only [hl1_3]); (try simp only [hl1_32]); (with_reducible repeat first | apply Kd.R_alloc | apply Kd.R_drewN | apply Kd.R_drew); exact HO_1.out⟩, ⟨by (try simp only [hl1_3]); (try simp only [hl1_32]); (with_reducible repeat first | refine blk_drewN ?_ _ | refine blk_drew ?_ | refine blk_alloc ?_ _); exact BK164.out⟩, ⟨by (try simp only [hl1_3]); (try simp only [hl1_32]); (with_reducible repeat first | refine blk_drewN ?_ _ | refine blk_drew ?_ | refine blk_alloc ?_ _); exact BK168.out⟩, ⟨by (try simp only [hl1_3]); (try simp only [hl1_32]); (with_reducible repeat first | refine blk_drewN ?_ _ | refine blk_drew ?_ | refine blk_alloc ?_ _); exact BK170.out⟩, ⟨by repeat (first | (with_reducible first | exact HK.out | apply Kept.alloc | apply Kept.drewN | apply Kept.drew | refine Kept.setCell ?_ (.inr GW164.out) _ | refine Kept.setCell ?_ (.inr GW168.out) _ | refine Kept.setCell ?_ (.inr GW170.out) _) | exact HK.out)⟩, ⟨by repeat (first | (with_reducible first | exact HB.out | apply below_alloc | apply pw_below_drewN | apply below_drew1 | refine below_set ?_ GE164.out | refine below_set ?_ GE168.out | refine below_set ?_ GE170.out) | exact HB.out)⟩⟩
                     ·(rw [if_neg c46] at H);(have c46b0 : (((rd_T30 l0_3 t166).f0) == ((rd_T30 l0_3 x9_3).f1)) = false := beq_eq_false_iff_ne.mpr c46);(have c46b1 : (((rd_T30 l0_3 t166).f0) != ((rd_T30 l0_3 x9_3).f1)) = true := bne_iff_ne.mpr c46)
                      as_aux_lemma =>
                       ((have H' := Aside0.mk H);(clear H);(have hnb58 := NB168_164.out);(have hnc58 := NB164_168.out);(have hnb59 := NB168_170.out);(have hnc59 := NB170_168.out);(have hcz60_0 : wc.cell? ⟨gb168, 0, none⟩ = some (.int .i64 ((rd_T30 l0_3 t166).f0)) := (blk_cell BK168.out 0).trans rfl);(have hcz60_1 : wc.cell? ⟨gb168, 1, none⟩ = some (.int .i64 ((rd_T30 l0_3 t166).f1)) := (blk_cell BK168.out 1).trans rfl);(have hcz60_2 : wc.cell? ⟨gb168, 2, none⟩ = some (.int .i64 ((rd_T30 l0_3 t166).f2)) := (blk_cell BK168.out 2).trans rfl);(have hfz60_0 := blk_frozen BK168.out 0);(have hfz60_1 := blk_frozen BK168.out 1);(have hfz60_2 := blk_frozen BK168.out 2);(have hnb61 := NB170_164.out);(have hnc61 := NB164_170.out);(have hcz62_0 : wc.cell? ⟨gb170, 0, none⟩ = some (.int .i64 ((rd_T30 l0_3 x9_3).f0)) := (blk_cell BK170.out 0).trans rfl);(have hcz62_1 : wc.cell? ⟨gb170, 1, none⟩ = some (.int .i64 ((rd_T30 l0_3 x9_3).f1)) := (blk_cell BK170.out 1).trans rfl);(have hcz62_2 : wc.cell? ⟨gb170, 2, none⟩ = some (.int .i64 ((rd_T30 l0_3 x9_3).f2)) := (blk_cell BK170.out 2).trans rfl);(have hfz62_0 := blk_frozen BK170.out 0);(have hfz62_1 := blk_frozen BK170.out 1);(have hfz62_2 := blk_frozen BK170.out 2)); (go_wp2); (go_meet)
                       case rel => exact ⟨_, (false), (by first | rfl | (simp; done) | (simp [*]; done)), H', ⟨by have := HK1.out; have := HJ4.out; have := HK3.out; have := HJ18.out; have := HJ32.out; first | omega | exact Nat.le_refl _⟩, ⟨by (try simp only [hl1_3]); (try simp only [hl1_32]); (with_reducible repeat first | apply Kd.R_alloc | apply Kd.R_drewN | apply Kd.R_drew); exact HO_1.out⟩, ⟨by (try simp only [hl1_3]); (try simp only [hl1_32]); (with_reducible repeat first | refine blk_drewN ?_ _ | refine blk_drew ?_ | refine blk_alloc ?_ _); exact BK164.out⟩, ⟨by (try simp only [hl1_3]); (try simp only [hl1_32]); (with_reducible repeat first | refine blk_drewN ?_ _ | refine blk_drew ?_ | refine blk_alloc ?_ _); exact BK168.out⟩, ⟨by (try simp only [hl1_3]); (try simp only [hl1_32]); (with_reducible repeat first | refine blk_drewN ?_ _ | refine blk_drew ?_ | refine blk_alloc ?_ _); exact BK170.out⟩, ⟨by repeat (first | (with_reducible first | exact HK.out | apply Kept.alloc | apply Kept.drewN | apply Kept.drew | refine Kept.setCell ?_ (.inr GW164.out) _ | refine Kept.setCell ?_ (.inr GW168.out) _ | refine Kept.setCell ?_ (.inr GW170.out) _) | exact HK.out)⟩, ⟨by repeat (first | (with_reducible first | exact HB.out | apply below_alloc | apply pw_below_drewN | apply below_drew1 | refine below_set ?_ GE164.out | refine below_set ?_ GE168.out | refine below_set ?_ GE170.out) | exact HB.out)⟩⟩
                   case rest =>
                    clear HC44
                    try clear c1
                    try clear p1
                    try clear q1
                    try clear hx1
                    try clear c2
                    try clear p2
                    try clear c3
                    try clear c4
                    try clear p4
                    try clear q4
                    try clear hx4
                    try clear hf4
                    try clear c5
                    try clear c6
                    try clear c6b0
                    try clear p6
                    try clear c7
                    try clear c7b0
                    try clear c9
                    try clear c10
                    try clear c10b0
                    try clear c11
                    try clear c11b0
                    try clear c12
                    try clear c14
                    try clear c14b0
                    try clear c15
                    try clear c15b0
                    try clear c16
                    try clear c16b0
                    try clear p16
                    try clear q16
                    try clear hx16
                    try clear c17
                    try clear c17b0
                    try clear p17
                    try clear q17
                    try clear hx17
                    try clear c18
                    try clear c18b0
                    try clear c22
                    try clear c26
                    try clear c27
                    try clear c29
                    try clear c29b0
                    try clear c29b1
                    try clear c30
                    try clear c31
                    try clear c34
                    try clear c35
                    try clear c35b0
                    try clear c36
                    try clear c36b0
                    try clear c37
                    try clear c37b0
                    try clear c38
                    try clear c38b0
                    try clear p41
                    try clear q41
                    try clear hx41
                    try clear hf41
                    try clear c45
                    try clear c45b0
                    try clear c45b1
                    try clear c46
                    try clear c46b0
                    try clear c46b1
                    try clear c47
                    try clear c47b0
                    try clear c47b1
                    try clear c48
                    try clear c49
                    try clear c51
                    try clear c53
                    try clear c54
                    try clear c56
                    try clear c58
                    try clear c59
                    try clear c61
                    try clear hcz20_0
                    try clear hcz20_1
                    try clear hcz20_2
                    try clear hcz20_3
                    try clear hcz23_0
                    try clear hcz23_1
                    try clear hcz23_2
                    try clear hcz24_0
                    try clear hcz24_1
                    try clear hcz24_2
                    try clear hcz24_3
                    try clear hcz28_0
                    try clear hcz28_1
                    try clear hcz28_2
                    try clear hcz32_0
                    try clear hcz32_1
                    try clear hcz32_2
                    try clear hcz50_0
                    try clear hcz50_1
                    try clear hcz50_2
                    try clear hcz52_0
                    try clear hcz52_1
                    try clear hcz52_2
                    try clear hcz55_0
                    try clear hcz55_1
                    try clear hcz55_2
                    try clear hcz57_0
                    try clear hcz57_1
                    try clear hcz57_2
                    try clear hcz60_0
                    try clear hcz60_1
                    try clear hcz60_2
                    try clear hcz62_0
                    try clear hcz62_1
                    try clear hcz62_2
                    try clear hfz20_0
                    try clear hfz20_1
                    try clear hfz20_2
                    try clear hfz20_3
                    try clear hfz23_0
                    try clear hfz23_1
                    try clear hfz23_2
                    try clear hfz24_0
                    try clear hfz24_1
                    try clear hfz24_2
                    try clear hfz24_3
                    try clear hfz28_0
                    try clear hfz28_1
                    try clear hfz28_2
                    try clear hfz32_0
                    try clear hfz32_1
                    try clear hfz32_2
                    try clear hfz50_0
                    try clear hfz50_1
                    try clear hfz50_2
                    try clear hfz52_0
                    try clear hfz52_1
                    try clear hfz52_2
                    try clear hfz55_0
                    try clear hfz55_1
                    try clear hfz55_2
                    try clear hfz57_0
                    try clear hfz57_1
                    try clear hfz57_2
                    try clear hfz60_0
                    try clear hfz60_1
                    try clear hfz60_2
                    try clear hfz62_0
                    try clear hfz62_1
                    try clear hfz62_2
                    try clear hx165_0
                    try clear hx167_0
                    try clear hx167_1
                    try clear hx167_2
                    try clear hx169_0
                    try clear hx169_1
                    try clear hx169_2
                    try clear hx171_0
                    try clear hx172_0
                    try clear hx173_0
                    try clear hx41_0
                    try clear p1
                    try clear p16
                    try clear p165
                    try clear p167
                    try clear p169
                    try clear p17
                    try clear p171
                    try clear p172
                    try clear p173
                    try clear p2
                    try clear p4
                    try clear p41
                    try clear p6
                    try clear q1
                    try clear q16
                    try clear q165
                    try clear q167
                    try clear q169
                    try clear q17
                    try clear q171
                    try clear q172
                    try clear q173
                    try clear q4
                    try clear q41
                    obtain ⟨kq, x106_43, rfl, HA, HJ43, HO_1, BK164, BK168, BK170, HK, HB⟩ := hcut
                    cases kq with
                    | zero => exact absurd HA.out (by simp [racewaylaw15_circled.j5])
                    | succ kj43 =>
                     ((have H := HA.out);(clear HA);(simp only [racewaylaw15_circled.j5] at H)); (by_cases c63 : x106_43 = true)
                     ·(subst c63);(have H1 : (if 0 ≤ t166 then (if t166 < (x1_32.length : Int) then (if 0 ≤ x9_3 then (if x9_3 < (x1_32.length : Int) then (if 0 ≤ x7_1 then (if x7_1 < (l2.length : Int) then ((racewaylaw15_pick.f (rd l2 x7_1) 7).bind fun t179 => ((some (x1_32.set (t166 : Int).toNat (wrap64 ((rd x1_32 t166) + (mn (mn (wrap64 (((rd_T30 l0_3 t166).f2) - (rd x1_32 t166))) (wrap64 (((rd_T30 l0_3 x9_3).f2) - (rd x1_32 x9_3)))) (wrap64 (1 + t179))))) : List Int)).bind fun y181 => (racewaylaw15_circled.l1 kj43 (y181.set (x9_3 : Int).toNat (wrap64 ((rd y181 x9_3) + (mn (mn (wrap64 (((rd_T30 l0_3 t166).f2) - (rd x1_32 t166))) (wrap64 (((rd_T30 l0_3 x9_3).f2) - (rd x1_32 x9_3)))) (wrap64 (1 + t179)))))) l2 x7_1 t166 (wrap64 (x9_3 + 1)) a0_0 a0_1 a0_2 l0_3))) else (none)) else (none)) else (none)) else (none)) else (none)) else (none)) = some r := by rw [if_pos rfl] at H; exact H);(clear H);(have H := H1);(clear H1)
                      by_cases c64 : 0 ≤ t166
                      ·(rw [if_pos c64] at H);(have c64b0 : decide (0 ≤ t166) = true := decide_eq_true c64);(clear c64)
                       by_cases c65 : t166 < (x1_32.length : Int)
                       ·(rw [if_pos c65] at H);(have c65b0 : decide (t166 < (x1_32.length : Int)) = true := decide_eq_true c65);(clear c65)
                        by_cases c66 : 0 ≤ x9_3
                        ·(rw [if_pos c66] at H);(have c66b0 : decide (0 ≤ x9_3) = true := decide_eq_true c66);(clear c66)
                         by_cases c67 : x9_3 < (x1_32.length : Int)
                         ·(rw [if_pos c67] at H);(have c67b0 : decide (x9_3 < (x1_32.length : Int)) = true := decide_eq_true c67);(clear c67)
                          by_cases c68 : 0 ≤ x7_1
                          ·(rw [if_pos c68] at H);(have c68b0 : decide (0 ≤ x7_1) = true := decide_eq_true c68);(clear c68)
                           by_cases c69 : x7_1 < (l2.length : Int)
                           ·(rw [if_pos c69] at H);(have c69b0 : decide (x7_1 < (l2.length : Int)) = true := decide_eq_true c69);(clear c69);(replace H := Option.bind_eq_some_iff.mp H);(obtain ⟨t179, A700, H⟩ := H);(replace H : ((some (x1_32.set (t166 : Int).toNat (wrap64 ((rd x1_32 t166) + (mn (mn (wrap64 (((rd_T30 l0_3 t166).f2) - (rd x1_32 t166))) (wrap64 (((rd_T30 l0_3 x9_3).f2) - (rd x1_32 x9_3)))) (wrap64 (1 + t179))))) : List Int)).bind fun y181 => (racewaylaw15_circled.l1 kj43 (y181.set (x9_3 : Int).toNat (wrap64 ((rd y181 x9_3) + (mn (mn (wrap64 (((rd_T30 l0_3 t166).f2) - (rd x1_32 t166))) (wrap64 (((rd_T30 l0_3 x9_3).f2) - (rd x1_32 x9_3)))) (wrap64 (1 + t179)))))) l2 x7_1 t166 (wrap64 (x9_3 + 1)) a0_0 a0_1 a0_2 l0_3)) = some r := H);(have A70 := Aside0.mk A700);(clear A700);(obtain ⟨ji71, hji71⟩ : ∃ j_ : Int, (mn (wrap64 (((rd_T30 l0_3 t166).f2) - (rd x1_32 t166))) (wrap64 (((rd_T30 l0_3 x9_3).f2) - (rd x1_32 x9_3)))) = j_ := ⟨_, rfl⟩);(replace H : ((some (x1_32.set (t166 : Int).toNat (wrap64 ((rd x1_32 t166) + (mn (ji71) (wrap64 (1 + t179))))) : List Int)).bind fun y181 => (racewaylaw15_circled.l1 kj43 (y181.set (x9_3 : Int).toNat (wrap64 ((rd y181 x9_3) + (mn (ji71) (wrap64 (1 + t179)))))) l2 x7_1 t166 (wrap64 (x9_3 + 1)) a0_0 a0_1 a0_2 l0_3)) = some r := by first | (rw [hji71] at H; exact H) | (simp only [hji71] at H ⊢; exact H));((try rw [hji71] at A70));(have hji71_ : (if (wrap64 (((rd_T30 l0_3 x9_3).f2) - (rd x1_32 x9_3))) < (wrap64 (((rd_T30 l0_3 t166).f2) - (rd x1_32 t166))) then (wrap64 (((rd_T30 l0_3 x9_3).f2) - (rd x1_32 x9_3))) else (wrap64 (((rd_T30 l0_3 t166).f2) - (rd x1_32 t166)))) = ji71 := hji71);(obtain ⟨ji72, hji72⟩ : ∃ j_ : Int, (mn (ji71) (wrap64 (1 + t179))) = j_ := ⟨_, rfl⟩);(replace H : ((some (x1_32.set (t166 : Int).toNat (wrap64 ((rd x1_32 t166) + (ji72))) : List Int)).bind fun y181 => (racewaylaw15_circled.l1 kj43 (y181.set (x9_3 : Int).toNat (wrap64 ((rd y181 x9_3) + (ji72)))) l2 x7_1 t166 (wrap64 (x9_3 + 1)) a0_0 a0_1 a0_2 l0_3)) = some r := by first | (rw [hji72] at H; exact H) | (simp only [hji72] at H ⊢; exact H));((try rw [hji72] at A70));(have hji72_ : (if (wrap64 (1 + t179)) < (ji71) then (wrap64 (1 + t179)) else (ji71)) = ji72 := hji72);(obtain ⟨y181, hy181⟩ : ∃ y_ : List Int, y_ = (x1_32.set (t166 : Int).toNat (wrap64 ((rd x1_32 t166) + (ji72)))) := ⟨_, rfl⟩);(replace H : (racewaylaw15_circled.l1 kj43 (y181.set (x9_3 : Int).toNat (wrap64 ((rd y181 x9_3) + (ji72)))) l2 x7_1 t166 (wrap64 (x9_3 + 1)) a0_0 a0_1 a0_2 l0_3) = some r := by first | (rw [hy181]; with_reducible exact H) | (have H2_ := (Option.bind_some _ _).symm.trans H; rw [hy181]; with_reducible exact H2_) | (have H2_ := (Option.bind_some _ _).symm.trans H; with_reducible exact H2_) | with_reducible exact H | (rw [hy181]; exact H) | exact H);(have Ny181 := Aside0.mk hy181);(clear hy181);(obtain ⟨y183, hy183⟩ : ∃ y_ : List Int, y_ = (y181.set (x9_3 : Int).toNat (wrap64 ((rd y181 x9_3) + (ji72)))) := ⟨_, rfl⟩);(replace H : (racewaylaw15_circled.l1 kj43 y183 l2 x7_1 t166 (wrap64 (x9_3 + 1)) a0_0 a0_1 a0_2 l0_3) = some r := by first | (rw [hy183]; with_reducible exact H) | (have H2_ := (Option.bind_some _ _).symm.trans H; rw [hy183]; with_reducible exact H2_) | (have H2_ := (Option.bind_some _ _).symm.trans H; with_reducible exact H2_) | with_reducible exact H | (rw [hy183]; exact H) | exact H);(have Ny183 := Aside0.mk hy183);(clear hy183)
                            as_aux_lemma =>
                             (have H' := Aside0.mk H);(clear H)
                             try go_wp2
                             ((have n0_ := Aside0.mk (Kd.R_drew HO_1.out));(have n1_ := Aside0.mk (blk_drew BK164.out));(have n2_ := Aside0.mk (blk_drew BK168.out));(have n3_ := Aside0.mk (blk_drew BK170.out));(have n4_ := Aside0.mk (Kept.drew HK.out));(have n5_ := Aside0.mk (below_drew1 HB.out));(clear HO_1);(clear BK164);(clear BK168);(clear BK170);(clear HK);(clear HB);(have HO_1 := n0_);(have BK164 := n1_);(have BK168 := n2_);(have BK170 := n3_);(have HK := n4_);(have HB := n5_);(clear n0_ n1_ n2_ n3_ n4_ n5_);(have p176 : 0 ≤ (t166 : Int) := of_decide_eq_true (by first | (with_reducible assumption) | assumption));(have q176 : t166 < (x1_32.length : Int) := of_decide_eq_true (by first | (with_reducible assumption) | assumption));(obtain ⟨ad176, e176, hx176_0⟩ := Kd.at_int (Kd.R_reads' HO_1.out).2.2 t166 p176 q176);(cases e176);(replace p176 := eq_true p176);(replace q176 := eq_true q176);(have p177 : 0 ≤ (x9_3 : Int) := of_decide_eq_true (by first | (with_reducible assumption) | assumption));(have q177 : x9_3 < (x1_32.length : Int) := of_decide_eq_true (by first | (with_reducible assumption) | assumption));(obtain ⟨ad177, e177, hx177_0⟩ := Kd.at_int (Kd.R_reads' HO_1.out).2.2 x9_3 p177 q177);(obtain rfl : ad176 = ad177 := (by injection e177));(replace p177 := eq_true p177);(replace q177 := eq_true q177);(have p178 : 0 ≤ (x7_1 : Int) := of_decide_eq_true (by first | (with_reducible assumption) | assumption));(have q178 : x7_1 < (l2.length : Int) := of_decide_eq_true (by first | (with_reducible assumption) | assumption));(obtain ⟨ad178, e178, hx178_0⟩ := Kd.at_int (Kd.C_kept_now HR2.out HK.out) x7_1 p178 q178);(have hw178_0 := hx178_0);(obtain rfl : ad165 = ad178 := (by injection e178));(replace p178 := eq_true p178);(replace q178 := eq_true q178);(refine start_ (n := 22) (S := fun w' => w'.cell? ⟨gb168, 0, none⟩ = some (.int .i64 ((rd_T30 l0_3 t166).f0)) ∧ w'.cell? ⟨gb168, 1, none⟩ = some (.int .i64 ((rd_T30 l0_3 t166).f1)) ∧ w'.cell? ⟨gb168, 2, none⟩ = some (.int .i64 ((rd_T30 l0_3 t166).f2)) ∧ w'.cell? ⟨gb170, 0, none⟩ = some (.int .i64 ((rd_T30 l0_3 x9_3).f0)) ∧ w'.cell? ⟨gb170, 1, none⟩ = some (.int .i64 ((rd_T30 l0_3 x9_3).f1)) ∧ w'.cell? ⟨gb170, 2, none⟩ = some (.int .i64 ((rd_T30 l0_3 x9_3).f2)) ∧ w'.cell? (ad176.add (t166).toNat) = some (.int .i64 (rd x1_32 t166)) ∧ w'.cell? (ad176.add (x9_3).toNat) = some (.int .i64 (rd x1_32 x9_3)) ∧ w'.cell? (ad165.add (x7_1).toNat) = some (.int .i64 (rd l2 x7_1))) (ds := []) #[F,F,F,F,F,F,F,F,F,F,F,F,F,F,F,F,F,F,F,F,F,F] (by kernel_rfl) rfl rfl ⟨(blk_cell BK168.out 0).trans rfl, (blk_cell BK168.out 1).trans rfl, (blk_cell BK168.out 2).trans rfl, (blk_cell BK170.out 0).trans rfl, (blk_cell BK170.out 1).trans rfl, (blk_cell BK170.out 2).trans rfl, hx176_0, hx177_0, (Kd.foot_int (HR2.out _ (by repeat (first | exact HK.out | apply Kept.alloc | apply Kept.drewN | apply Kept.drew))) x7_1 (of_eq_true p178) (of_eq_true q178))⟩ (fun hHeld => ?_); refine with_tabW racewaylaw15_circled.tab13 racewaylaw15_circled.bits13 (fun HT_ HW_ => ?_));(generalize wc.drew = w75 at HO_1 BK164 BK168 BK170 HK HB hx176_0 hx177_0 hx178_0 hHeld ⊢);(refine pure_ (i := 0) (N := some 107) (v := ?_) (a' := ?_) #[T,F,F,F,F,F,F,F,F,F,F,F,F,F,F,F,F,F,F,F,F,F] rfl rfl (any_of HT_.out (by kernel_rfl)) (fun _ _ _ h => h) (Or.inl ⟨by rfl, ?_⟩) ?_ ?_)); rotate_left; (·intro w'; go_simp; with_reducible rfl); rotate_left; (·(simp only [Act.put, sA_, sZ_, sS_, i64_w, i32_w]); rfl); (refine pure_ (i := 2) (N := some 109) (v := ?_) (a' := ?_) #[T,F,T,F,F,F,F,F,F,F,F,F,F,F,F,F,F,F,F,F,F,F] rfl rfl (any_of HT_.out (by kernel_rfl)) (fun _ _ _ h => h) (Or.inl ⟨by rfl, ?_⟩) ?_ ?_); rotate_left; (·intro w'; go_simp; with_reducible rfl); rotate_left; (·(simp only [Act.put, sA_, sZ_, sS_, i64_w, i32_w]); rfl); (refine pure_ (i := 3) (N := some 110) (v := ?_) (a' := ?_) #[T,F,T,T,F,F,F,F,F,F,F,F,F,F,F,F,F,F,F,F,F,F] rfl rfl (any_of HT_.out (by kernel_rfl)) (fun _ _ _ h => h) (Or.inl ⟨by rfl, ?_⟩) ?_ ?_); rotate_left; (·intro w'; go_simp; with_reducible rfl); rotate_left; (·(simp only [Act.put, sA_, sZ_, sS_, i64_w, i32_w]); rfl); (refine pure_ (i := 4) (N := some 111) (v := ?_) (a' := ?_) #[T,F,T,T,T,F,F,F,F,F,F,F,F,F,F,F,F,F,F,F,F,F] rfl rfl (any_of HT_.out (by kernel_rfl)) (fun _ _ _ h => h) (Or.inl ⟨by rfl, ?_⟩) ?_ ?_); rotate_left; (·intro w'; go_simp; with_reducible rfl); rotate_left; (·(simp only [Act.put, sA_, sZ_, sS_, i64_w, i32_w]); rfl); (refine pure_ (i := 7) (N := some 114) (v := ?_) (a' := ?_) #[T,F,T,T,T,F,F,T,F,F,F,F,F,F,F,F,F,F,F,F,F,F] rfl rfl (any_of HT_.out (by kernel_rfl)) (fun _ _ _ h => h) (Or.inl ⟨by rfl, ?_⟩) ?_ ?_); rotate_left; (·intro w'; go_simp; with_reducible rfl); rotate_left; (·(simp only [Act.put, sA_, sZ_, sS_, i64_w, i32_w]); rfl); (refine pure_ (i := 9) (N := some 116) (v := ?_) (a' := ?_) #[T,F,T,T,T,F,F,T,F,T,F,F,F,F,F,F,F,F,F,F,F,F] rfl rfl (any_of HT_.out (by kernel_rfl)) (fun _ _ _ h => h) (Or.inl ⟨by rfl, ?_⟩) ?_ ?_); rotate_left; (·intro w'; go_simp; with_reducible rfl); rotate_left; (·(simp only [Act.put, sA_, sZ_, sS_, i64_w, i32_w]); rfl)
                             (refine pure_ (i := 10) (N := some 117) (v := ?_) (a' := ?_) #[T,F,T,T,T,F,F,T,F,T,T,F,F,F,F,F,F,F,F,F,F,F] rfl rfl (any_of HT_.out (by kernel_rfl)) (fun _ _ _ h => h) (Or.inl ⟨by rfl, ?_⟩) ?_ ?_); rotate_left; (·intro w'; go_simp; with_reducible rfl); rotate_left; (·(simp only [Act.put, sA_, sZ_, sS_, i64_w, i32_w]); rfl); (refine pure_ (i := 11) (N := some 118) (v := ?_) (a' := ?_) #[T,F,T,T,T,F,F,T,F,T,T,T,F,F,F,F,F,F,F,F,F,F] rfl rfl (any_of HT_.out (by kernel_rfl)) (fun _ _ _ h => h) (Or.inl ⟨by rfl, ?_⟩) ?_ ?_); rotate_left; (·intro w'; go_simp; with_reducible rfl); rotate_left; (·(simp only [Act.put, sA_, sZ_, sS_, i64_w, i32_w]); rfl); (refine pure_ (i := 14) (N := some 121) (v := ?_) (a' := ?_) #[T,F,T,T,T,F,F,T,F,T,T,T,F,F,T,F,F,F,F,F,F,F] rfl rfl (any_of HT_.out (by kernel_rfl)) (fun _ _ _ h => h) (Or.inl ⟨by rfl, ?_⟩) ?_ ?_); rotate_left; (·intro w'; go_simp; with_reducible rfl); rotate_left; (·(simp only [Act.put, sA_, sZ_, sS_, i64_w, i32_w]); rfl); (refine pure_ (i := 15) (N := some 122) (v := ?_) (a' := ?_) #[T,F,T,T,T,F,F,T,F,T,T,T,F,F,T,T,F,F,F,F,F,F] rfl rfl (any_of HT_.out (by kernel_rfl)) (fun _ _ _ h => h) (Or.inl ⟨by rfl, ?_⟩) ?_ ?_); rotate_left; (·intro w'; go_simp; with_reducible rfl); rotate_left; (·(simp only [Act.put, sA_, sZ_, sS_, i64_w, i32_w]); rfl); (refine pure_ (i := 16) (N := some 123) (v := ?_) (a' := ?_) #[T,F,T,T,T,F,F,T,F,T,T,T,F,F,T,T,T,F,F,F,F,F] rfl rfl (any_of HT_.out (by kernel_rfl)) (fun _ _ _ h => h) (Or.inl ⟨by rfl, ?_⟩) ?_ ?_); rotate_left; (·intro w'; go_simp; with_reducible rfl); rotate_left; (·(simp only [Act.put, sA_, sZ_, sS_, i64_w, i32_w]); rfl); (refine take_ (i := 1) (N := some 108) (v := ?_) (a' := ?_) #[T,T,T,T,T,F,F,T,F,T,T,T,F,F,T,T,T,F,F,F,F,F] rfl rfl (take_ofW HT_.out HW_.out (by kernel_rfl)) (fun _ _ _ h => h) (Or.inl ⟨by rfl, ?_⟩) hHeld ?_ ?_); rotate_left; (·(rintro w' ⟨s0, s1, s2, s3, s4, s5, s6, s7, s8⟩); go_simp; with_reducible rfl); rotate_left; (·(simp only [Act.put, sA_, sZ_, sS_, i64_w, i32_w]); rfl); (refine take_ (i := 5) (N := some 112) (v := ?_) (a' := ?_) #[T,T,T,T,T,T,F,T,F,T,T,T,F,F,T,T,T,F,F,F,F,F] rfl rfl (take_ofW HT_.out HW_.out (by kernel_rfl)) (fun _ _ _ h => h) (Or.inl ⟨by rfl, ?_⟩) hHeld ?_ ?_); rotate_left; (·(rintro w' ⟨s0, s1, s2, s3, s4, s5, s6, s7, s8⟩); go_simp; with_reducible rfl); rotate_left; (·(simp only [Act.put, sA_, sZ_, sS_, i64_w, i32_w]); rfl); (refine pure_ (i := 6) (N := some 113) (v := ?_) (a' := ?_) #[T,T,T,T,T,T,T,T,F,T,T,T,F,F,T,T,T,F,F,F,F,F] rfl rfl (any_of HT_.out (by kernel_rfl)) (fun _ _ _ h => h) (Or.inl ⟨by rfl, ?_⟩) ?_ ?_); rotate_left; (·intro w'; go_simp; with_reducible rfl); rotate_left; (·(simp only [Act.put, sA_, sZ_, sS_, i64_w, i32_w]); rfl); (refine take_ (i := 8) (N := some 115) (v := ?_) (a' := ?_) #[T,T,T,T,T,T,T,T,T,T,T,T,F,F,T,T,T,F,F,F,F,F] rfl rfl (take_ofW HT_.out HW_.out (by kernel_rfl)) (fun _ _ _ h => h) (Or.inl ⟨by rfl, ?_⟩) hHeld ?_ ?_); rotate_left; (·(rintro w' ⟨s0, s1, s2, s3, s4, s5, s6, s7, s8⟩); go_simp; with_reducible rfl); rotate_left; (·(simp only [Act.put, sA_, sZ_, sS_, i64_w, i32_w]); rfl); (refine take_ (i := 12) (N := some 119) (v := ?_) (a' := ?_) #[T,T,T,T,T,T,T,T,T,T,T,T,T,F,T,T,T,F,F,F,F,F] rfl rfl (take_ofW HT_.out HW_.out (by kernel_rfl)) (fun _ _ _ h => h) (Or.inl ⟨by rfl, ?_⟩) hHeld ?_ ?_); rotate_left; (·(rintro w' ⟨s0, s1, s2, s3, s4, s5, s6, s7, s8⟩); go_simp; with_reducible rfl); rotate_left; (·(simp only [Act.put, sA_, sZ_, sS_, i64_w, i32_w]); rfl); (refine pure_ (i := 13) (N := some 120) (v := ?_) (a' := ?_) #[T,T,T,T,T,T,T,T,T,T,T,T,T,T,T,T,T,F,F,F,F,F] rfl rfl (any_of HT_.out (by kernel_rfl)) (fun _ _ _ h => h) (Or.inl ⟨by rfl, ?_⟩) ?_ ?_); rotate_left; (·intro w'; go_simp; with_reducible rfl); rotate_left; (·(simp only [Act.put, sA_, sZ_, sS_, i64_w, i32_w]); rfl); (refine take_ (i := 17) (N := some 124) (v := ?_) (a' := ?_) #[T,T,T,T,T,T,T,T,T,T,T,T,T,T,T,T,T,T,F,F,F,F] rfl rfl (take_ofW HT_.out HW_.out (by kernel_rfl)) (fun _ _ _ h => h) (Or.inl ⟨by rfl, ?_⟩) hHeld ?_ ?_); rotate_left; (·(rintro w' ⟨s0, s1, s2, s3, s4, s5, s6, s7, s8⟩); go_simp; with_reducible rfl); rotate_left; (·(simp only [Act.put, sA_, sZ_, sS_, i64_w, i32_w]); rfl); ((refine one_ (i := 18) (N := some 125) #[T,T,T,T,T,T,T,T,T,T,T,T,T,T,T,T,T,T,T,F,F,F] rfl rfl (one_of HT_.out (by kernel_rfl)) (by decide) (fun K hK => ?_));(refine goes_ Try.func9 (by kernel_rfl) rfl #[.int .i64 (rd l2 x7_1), .int .i64 7] (by rfl) rfl rfl (by (try simp only [List.map_toArray, List.map_cons, List.map_nil]); first | done | rfl | (simp only [List.length_drop, List.length_take]; rfl)) ?_))
                             (with_reducible refine (racewaylaw15_pick.calls (rd l2 x7_1) 7 t179 _ A70.out).mono ?_); ((rintro e w' ⟨rfl, ⟨nd, rfl⟩⟩);(refine ⟨_, rfl, ?_⟩);(refine hK.out _ _ ⟨(blk_cell BK168.out 0).trans rfl, (blk_cell BK168.out 1).trans rfl, (blk_cell BK168.out 2).trans rfl, (blk_cell BK170.out 0).trans rfl, (blk_cell BK170.out 1).trans rfl, (blk_cell BK170.out 2).trans rfl, hHeld.2.2.2.2.2.2.1, hHeld.2.2.2.2.2.2.2.1, (Kd.foot_int (HR2.out _ (by repeat (first | exact HK.out | apply Kept.alloc | apply Kept.drewN | apply Kept.drew))) x7_1 (of_eq_true p178) (of_eq_true q178))⟩ (fun hHeld => ?_));(clear hK K);(refine norm_ (a' := ?_) ?_ ?_)); rotate_left; (·(show Act.put _ (some 125) _ = _); (simp only [Act.put, sA_, sZ_, sS_, i64_w, i32_w]); rfl); (refine pure_ (i := 19) (N := some 126) (v := ?_) (a' := ?_) #[T,T,T,T,T,T,T,T,T,T,T,T,T,T,T,T,T,T,T,T,F,F] rfl rfl (any_of HT_.out (by kernel_rfl)) (fun _ _ _ h => h) (Or.inl ⟨by rfl, ?_⟩) ?_ ?_); rotate_left; (·intro w'; go_simp; with_reducible rfl); rotate_left; (·(simp only [Act.put, sA_, sZ_, sS_, i64_w, i32_w]); rfl); (refine pure_ (i := 20) (N := some 127) (v := ?_) (a' := ?_) #[T,T,T,T,T,T,T,T,T,T,T,T,T,T,T,T,T,T,T,T,T,F] rfl rfl (any_of HT_.out (by kernel_rfl)) (fun _ _ _ h => h) (Or.inl ⟨by rfl, ?_⟩) ?_ ?_); rotate_left; (·intro w'; go_simp; with_reducible rfl); rotate_left; (·(simp only [Act.put, sA_, sZ_, sS_, i64_w, i32_w]); rfl); (refine pure_ (i := 21) (N := some 12) (v := ?_) (a' := ?_) #[T,T,T,T,T,T,T,T,T,T,T,T,T,T,T,T,T,T,T,T,T,T] rfl rfl (any_of HT_.out (by kernel_rfl)) (fun _ _ _ h => h) (Or.inl ⟨by rfl, ?_⟩) ?_ ?_); rotate_left; (·intro w'; go_simp; with_reducible rfl); rotate_left; (·(simp only [Act.put, sA_, sZ_, sS_, i64_w, i32_w]); rfl); ((refine done_ (done_of HT_.out (by kernel_rfl)) ?_);(have p180 : 0 ≤ (t166 : Int) := of_decide_eq_true (by first | (with_reducible assumption) | assumption));(have q180 : t166 < (x1_32.length : Int) := of_decide_eq_true (by first | (with_reducible assumption) | assumption));(obtain ⟨ad180, e180, hx180_0⟩ := Kd.at_int (Kd.R_reads' HO_1.out).2.2 t166 p180 q180);(obtain rfl : ad176 = ad180 := (by injection e180));(replace p180 := eq_true p180);(replace q180 := eq_true q180);(have p73 : 0 ≤ (t166 : Int) := of_decide_eq_true (by first | (with_reducible assumption) | assumption));(have q73 : (t166 : Int) < ((x1_32.length : Int) : Int) := of_decide_eq_true (by first | (with_reducible assumption) | assumption));(obtain ⟨go73, co73, eo73, gb73, gl73, cl73, HG73⟩ := Kd.R_form HO_1.out (by omega));((first | cases eo73 | (injection eo73 with ea_ en_ ec_; (first | subst ea_ | (injection ea_ with ea_; subst ea_)); subst ec_; clear en_)));(have GB73 := Aside0.mk gb73);(have GG73 := Aside0.mk HG73);(clear gb73 gl73 HG73);(have HMgo73 := Aside0.mk (show (P1_ go73 ∨ w.heap.size ≤ go73) from (HO_1.out.1 _ rfl)));((first | simp only [add_plain] at hx176_0 | skip));((first | simp only [add_plain] at hx177_0 | skip));((first | simp only [add_plain] at hx180_0 | skip));(obtain ⟨hx73_0, hf73_0⟩ := Kd.R_celln 0 HO_1.out (t166 : Int) p73 q73);(replace p73 := eq_true p73);(replace q73 := eq_true q73);(obtain ⟨hy76_, hz76_⟩ := Kd.R_celln 0 HO_1.out (t166 : Int) (of_decide_eq_true (by first | (with_reducible assumption) | assumption)) (of_decide_eq_true (by first | (with_reducible assumption) | assumption)));(have HP76 := Kd.R_putg HO_1.out (t166 : Int) (wrap64 ((rd x1_32 t166) + (ji72)))))
                             have n0_ : Aside0 (Kd.R (Kd.int .i64) 2 (w75.drewN nd) w0.heap.size (fun k_ => (P1_ k_ ∨ w.heap.size ≤ k_)) (.slice (some ⟨go73, 0, none⟩) x1_32.length co13) x1_32) := ⟨by apply Kd.R_drewN; exact HO_1.out⟩
                             have n1_ : Aside0 ((w75.drewN nd).heap[gb164]? = some (.cells #[.int .i64 a0_0, .int .i64 a0_1, .int .i64 a0_2, .slice (some ad167) l0_3.length c0_3] 26 (0, 0))) := ⟨by refine blk_drewN ?_ _; exact BK164.out⟩
                             have n2_ : Aside0 ((w75.drewN nd).heap[gb168]? = some (.cells #[.int .i64 ((rd_T30 l0_3 t166).f0), .int .i64 ((rd_T30 l0_3 t166).f1), .int .i64 ((rd_T30 l0_3 t166).f2)] 30 (0, 0))) := ⟨by refine blk_drewN ?_ _; exact BK168.out⟩
                             have n3_ : Aside0 ((w75.drewN nd).heap[gb170]? = some (.cells #[.int .i64 ((rd_T30 l0_3 x9_3).f0), .int .i64 ((rd_T30 l0_3 x9_3).f1), .int .i64 ((rd_T30 l0_3 x9_3).f2)] 30 (0, 0))) := ⟨by refine blk_drewN ?_ _; exact BK170.out⟩
                             have nb_ : Aside0 (Below w0.heap.size w0 (w75.drewN nd)) := ⟨by apply pw_below_drewN; exact HB.out⟩
                             have nk_ : Aside0 (Kept w (w75.drewN nd) fun k_ => P1_ k_) := ⟨by apply Kept.drewN; exact HK.out⟩
                             clear HO_1 HB HK HP76 BK164 BK168 BK170
                             have HO_1 := n0_
                             have HB := nb_
                             have HK := nk_
                             have BK164 := n1_
                             have BK168 := n2_
                             have BK170 := n3_
                             clear n0_ nb_ nk_ n1_ n2_ n3_
                             have HP76 := Kd.R_putg HO_1.out (t166 : Int) ((wrap64 ((rd x1_32 t166) + (ji72))))
                             obtain ⟨hxd_, hfd_⟩ := Kd.R_celln 0 HO_1.out (t166 : Int) (of_decide_eq_true (by first | (with_reducible assumption) | assumption)) (of_decide_eq_true (by first | (with_reducible assumption) | assumption))
                             generalize w75.drewN nd = wd_ at *
                             try go_wp2_with (first | ((with_reducible refine gate_store (t := 2) (p := 136) rfl ?_); refine store_event (t := 2) (p := 136) (v := ?vo_w77) (w1 := (wd_.setCell ⟨go73, (t166 : Int).toNat, none⟩ (.int .i64 (wrap64 ((rd x1_32 t166) + (ji72)))))) ?hg ?ho ?hn ?hr ?_; (case ho => rfl); (case hg => rfl); (case hn => rfl); (case hr => first | (go_simp; done) | (go_simp; rfl)); intro w77 hw; have hg : wd_.grownBy w77 (some go73) := (by rw [hw]; exact HP76.2); have hp_ : Kd.R (Kd.int .i64) 2 w77 w0.heap.size (fun k_ => (P1_ k_ ∨ w.heap.size ≤ k_)) (.slice (some ⟨go73, 0, none⟩) x1_32.length co13) y181 := (by rw [hw, Ny181.out]; exact HP76.1); clear HP76; have n0_ := Aside0.mk (hp_); have n1_ := Aside0.mk (blk_grown (g := gb164) (o := .cells #[.int .i64 a0_0, .int .i64 a0_1, .int .i64 a0_2, .slice (some ad167) l0_3.length c0_3] 26 (0, 0)) (by (with_reducible repeat first | refine blk_drewN ?_ _ | refine blk_drew ?_ | refine blk_alloc ?_ _); exact BK164.out) hg (Kd.R_ne HO_1.out BK164.out (by decide))); have n2_ := Aside0.mk (blk_grown (g := gb168) (o := .cells #[.int .i64 ((rd_T30 l0_3 t166).f0), .int .i64 ((rd_T30 l0_3 t166).f1), .int .i64 ((rd_T30 l0_3 t166).f2)] 30 (0, 0)) (by (with_reducible repeat first | refine blk_drewN ?_ _ | refine blk_drew ?_ | refine blk_alloc ?_ _); exact BK168.out) hg (Kd.R_ne HO_1.out BK168.out (by decide))); have n3_ := Aside0.mk (blk_grown (g := gb170) (o := .cells #[.int .i64 ((rd_T30 l0_3 x9_3).f0), .int .i64 ((rd_T30 l0_3 x9_3).f1), .int .i64 ((rd_T30 l0_3 x9_3).f2)] 30 (0, 0)) (by (with_reducible repeat first | refine blk_drewN ?_ _ | refine blk_drew ?_ | refine blk_alloc ?_ _); exact BK170.out) hg (Kd.R_ne HO_1.out BK170.out (by decide))); have n4_ := Aside0.mk ((by rw [hw]; exact below_set (HB.out) GB73.out : Below w0.heap.size w0 w77)); have n5_ := Aside0.mk (Kept.of_grown (S := (fun k_ => P1_ k_)) hg (by repeat (first | (with_reducible first | exact HK.out | apply Kept.alloc | apply Kept.drewN | apply Kept.drew | refine Kept.setCell ?_ (.inr GW164.out) _ | refine Kept.setCell ?_ (.inr GW168.out) _ | refine Kept.setCell ?_ (.inr GW170.out) _) | exact HK.out)) (fun k_ e_ => (HO_1.out.1 k_ e_))); clear HO_1; clear BK164; clear BK168; clear BK170; clear HB; clear HK; have HO_1 := n0_; have BK164 := n1_; have BK168 := n2_; have BK170 := n3_; have HB := n4_; have HK := n5_; clear n0_ n1_ n2_ n3_ n4_ n5_; clear hg hw hp_; have p182 : 0 ≤ (x9_3 : Int) := of_decide_eq_true (by first | (with_reducible assumption) | assumption); have q182 : x9_3 < (y181.length : Int) := (by have h_ : (x9_3 : Int) < ((x1_32.length : Int) : Int) := of_decide_eq_true (by first | (with_reducible assumption) | assumption); first | (have e_ := (Kd.R_reads' HO_1.out).1; omega) | simpa only [Ny181.out, List.length_set] using h_); have ql182 : ((x9_3 : Int) < ((x1_32.length : Int) : Int)) = True := eq_true (of_decide_eq_true (by first | (with_reducible assumption) | assumption)); obtain ⟨ad182, e182, hx182_0⟩ := Kd.at_int (Kd.R_reads' HO_1.out).2.2 x9_3 p182 q182; obtain rfl : (⟨go73, 0, none⟩ : Addr) = ad182 := (by injection e182); (first | simp only [add_plain] at hx182_0 | simp only [add_at] at hx182_0 | simp only [Addr.add, Nat.zero_add] at hx182_0 | skip); replace p182 := eq_true p182; replace q182 := eq_true q182; have p74 : 0 ≤ (x9_3 : Int) := of_decide_eq_true (by first | (with_reducible assumption) | assumption); have q74 : (x9_3 : Int) < ((x1_32.length : Int) : Int) := of_decide_eq_true (by first | (with_reducible assumption) | assumption); obtain ⟨hx74_0, hf74_0⟩ := Kd.R_celln 0 HO_1.out (x9_3 : Int) p74 q74; replace p74 := eq_true p74; replace q74 := eq_true q74; obtain ⟨hy78_, hz78_⟩ := Kd.R_celln 0 HO_1.out (x9_3 : Int) (of_decide_eq_true (by first | (with_reducible assumption) | assumption)) (of_decide_eq_true (by first | (with_reducible assumption) | assumption)); have HP78 := Kd.R_putg HO_1.out (x9_3 : Int) (wrap64 ((rd y181 x9_3) + (ji72)))) | ((with_reducible refine gate_store (t := 2) (p := 145) rfl ?_); refine store_event (t := 2) (p := 145) (v := ?vo_w79) (w1 := (w77.setCell ⟨go73, (x9_3 : Int).toNat, none⟩ (.int .i64 (wrap64 ((rd y181 x9_3) + (ji72)))))) ?hg ?ho ?hn ?hr ?_; (case ho => rfl); (case hg => rfl); (case hn => rfl); (case hr => first | (go_simp; done) | (go_simp; rfl)); intro w79 hw; have hg : w77.grownBy w79 (some go73) := (by rw [hw]; exact HP78.2); have hp_ : Kd.R (Kd.int .i64) 2 w79 w0.heap.size (fun k_ => (P1_ k_ ∨ w.heap.size ≤ k_)) (.slice (some ⟨go73, 0, none⟩) x1_32.length co13) y183 := (by rw [hw, Ny183.out]; exact HP78.1); clear HP78; have n0_ := Aside0.mk (hp_); have n1_ := Aside0.mk (blk_grown (g := gb164) (o := .cells #[.int .i64 a0_0, .int .i64 a0_1, .int .i64 a0_2, .slice (some ad167) l0_3.length c0_3] 26 (0, 0)) (by (with_reducible repeat first | refine blk_drewN ?_ _ | refine blk_drew ?_ | refine blk_alloc ?_ _); exact BK164.out) hg (Kd.R_ne HO_1.out BK164.out (by decide))); have n2_ := Aside0.mk (blk_grown (g := gb168) (o := .cells #[.int .i64 ((rd_T30 l0_3 t166).f0), .int .i64 ((rd_T30 l0_3 t166).f1), .int .i64 ((rd_T30 l0_3 t166).f2)] 30 (0, 0)) (by (with_reducible repeat first | refine blk_drewN ?_ _ | refine blk_drew ?_ | refine blk_alloc ?_ _); exact BK168.out) hg (Kd.R_ne HO_1.out BK168.out (by decide))); have n3_ := Aside0.mk (blk_grown (g := gb170) (o := .cells #[.int .i64 ((rd_T30 l0_3 x9_3).f0), .int .i64 ((rd_T30 l0_3 x9_3).f1), .int .i64 ((rd_T30 l0_3 x9_3).f2)] 30 (0, 0)) (by (with_reducible repeat first | refine blk_drewN ?_ _ | refine blk_drew ?_ | refine blk_alloc ?_ _); exact BK170.out) hg (Kd.R_ne HO_1.out BK170.out (by decide))); have n4_ := Aside0.mk ((by rw [hw]; exact below_set (HB.out) GB73.out : Below w0.heap.size w0 w79)); have n5_ := Aside0.mk (Kept.of_grown (S := (fun k_ => P1_ k_)) hg (by repeat (first | (with_reducible first | exact HK.out | apply Kept.alloc | apply Kept.drewN | apply Kept.drew | refine Kept.setCell ?_ (.inr GW164.out) _ | refine Kept.setCell ?_ (.inr GW168.out) _ | refine Kept.setCell ?_ (.inr GW170.out) _) | exact HK.out)) (fun k_ e_ => (HO_1.out.1 k_ e_))); clear HO_1; clear BK164; clear BK168; clear BK170; clear HB; clear HK; have HO_1 := n0_; have BK164 := n1_; have BK168 := n2_; have BK170 := n3_; have HB := n4_; have HK := n5_; clear n0_ n1_ n2_ n3_ n4_ n5_; clear hg hw hp_))
                             (try simp only [← hl1_3, ← hl1_32]); (go_roundg kj43)
                             case measure => have := HK1.out; have := HJ4.out; have := HK3.out; have := HJ18.out; have := HJ32.out; have := HJ43.out; omega
                             case rel => exact ⟨(y183), (wrap64 (x9_3 + 1)), (by first | rfl | (simp; done) | (simp [*]; done)), H', ⟨by have := HK1.out; have := HJ4.out; have := HK3.out; have := HJ18.out; have := HJ32.out; have := HJ43.out; omega⟩, ⟨by (try simp only [hl1_3]); (try simp only [hl1_32]); (with_reducible repeat first | apply Kd.R_alloc | apply Kd.R_drewN | apply Kd.R_drew); exact HO_1.out⟩, ⟨by (try simp only [hl1_3]); (try simp only [hl1_32]); (with_reducible repeat first | refine blk_drewN ?_ _ | refine blk_drew ?_ | refine blk_alloc ?_ _); exact BK164.out⟩, ⟨by repeat (first | (with_reducible first | exact HK.out | apply Kept.alloc | apply Kept.drewN | apply Kept.drew | refine Kept.setCell ?_ (.inr GW164.out) _ | refine Kept.setCell ?_ (.inr GW168.out) _ | refine Kept.setCell ?_ (.inr GW170.out) _) | exact HK.out)⟩, ⟨by repeat (first | (with_reducible first | exact HB.out | apply below_alloc | apply pw_below_drewN | apply below_drew1 | refine below_set ?_ GE164.out | refine below_set ?_ GE168.out | refine below_set ?_ GE170.out) | exact HB.out)⟩⟩
                           ·(rw [if_neg c69] at H);(exact absurd H (by simp))
                          ·(rw [if_neg c68] at H);(exact absurd H (by simp))
                         ·(rw [if_neg c67] at H);(exact absurd H (by simp))
                        ·(rw [if_neg c66] at H);(exact absurd H (by simp))
                       ·(rw [if_neg c65] at H);(exact absurd H (by simp))
                      ·(rw [if_neg c64] at H);(exact absurd H (by simp))
                     ·(replace c63 := Bool.eq_false_iff.mpr c63);(subst c63);(have H1 : (racewaylaw15_circled.l1 kj43 x1_32 l2 x7_1 t166 (wrap64 (x9_3 + 1)) a0_0 a0_1 a0_2 l0_3) = some r := by rw [if_neg (show ¬ (false = true) by decide)] at H; exact H);(clear H);(have H := H1);(clear H1)
                      as_aux_lemma =>
                       ((have H' := Aside0.mk H);(clear H)); (go_wp2); (try simp only [← hl1_3, ← hl1_32]); (go_roundg kj43)
                       case measure => have := HK1.out; have := HJ4.out; have := HK3.out; have := HJ18.out; have := HJ32.out; have := HJ43.out; omega
                       case rel => exact ⟨(x1_32), (wrap64 (x9_3 + 1)), (by first | rfl | (simp; done) | (simp [*]; done)), H', ⟨by have := HK1.out; have := HJ4.out; have := HK3.out; have := HJ18.out; have := HJ32.out; have := HJ43.out; omega⟩, ⟨by (try simp only [hl1_3]); (try simp only [hl1_32]); (with_reducible repeat first | apply Kd.R_alloc | apply Kd.R_drewN | apply Kd.R_drew); exact HO_1.out⟩, ⟨by (try simp only [hl1_3]); (try simp only [hl1_32]); (with_reducible repeat first | refine blk_drewN ?_ _ | refine blk_drew ?_ | refine blk_alloc ?_ _); exact BK164.out⟩, ⟨by repeat (first | (with_reducible first | exact HK.out | apply Kept.alloc | apply Kept.drewN | apply Kept.drew | refine Kept.setCell ?_ (.inr GW164.out) _ | refine Kept.setCell ?_ (.inr GW168.out) _ | refine Kept.setCell ?_ (.inr GW170.out) _) | exact HK.out)⟩, ⟨by repeat (first | (with_reducible first | exact HB.out | apply below_alloc | apply pw_below_drewN | apply below_drew1 | refine below_set ?_ GE164.out | refine below_set ?_ GE168.out | refine below_set ?_ GE170.out) | exact HB.out)⟩⟩
              ·(rw [if_neg c18] at H);(exact absurd H (by simp))
             ·(rw [if_neg c17] at H);(exact absurd H (by simp))
            ·(rw [if_neg c16] at H);(exact absurd H (by simp))
           ·(rw [if_neg c15] at H);(exact absurd H (by simp))
          ·(rw [if_neg c14] at H);(have c14b0 : decide (x9_3 < (x1_3.length : Int)) = false := decide_eq_false c14);(clear c14)
           as_aux_lemma =>
            ((have H' := Aside0.mk H);(clear H)); (go_wp2); (try simp only [← hl1_3]); (go_roundg k3)
            case measure => have := HK1.out; have := HJ4.out; have := HK3.out; omega
            case rel => exact ⟨(x1_3), (wrap64 (x7_1 + 1)), (by first | rfl | (simp; done) | (simp [*]; done)), H', ⟨by have := HK1.out; have := HJ4.out; have := HK3.out; omega⟩, ⟨by (try simp only [hl1_3]); (with_reducible repeat first | apply Kd.R_alloc | apply Kd.R_drewN | apply Kd.R_drew); exact HO_1.out⟩, ⟨by (try simp only [hl1_3]); (with_reducible repeat first | refine blk_drewN ?_ _ | refine blk_drew ?_ | refine blk_alloc ?_ _); exact BK164.out⟩, ⟨by repeat (first | (with_reducible first | exact HK.out | apply Kept.alloc | apply Kept.drewN | apply Kept.drew | refine Kept.setCell ?_ (.inr GW164.out) _) | exact HK.out)⟩, ⟨by repeat (first | (with_reducible first | exact HB.out | apply below_alloc | apply pw_below_drewN | apply below_drew1 | refine below_set ?_ GE164.out) | exact HB.out)⟩⟩
       ·(rw [if_neg c11] at H);(exact absurd H (by simp))
      ·(rw [if_neg c10] at H);(exact absurd H (by simp))
     ·(replace c9 := Bool.eq_false_iff.mpr c9);(subst c9);(have H1 : (some x1_1) = some r := by rw [if_neg (show ¬ (false = true) by decide)] at H; exact H);(clear H);(have H := H1);(clear H1)
      as_aux_lemma =>
       (obtain rfl := Option.some.inj H); (go_wp2); (go_ret); (exact ⟨_, by first | rfl | (simp [errW_none, errW_some] <;> rfl) | (simp [*, errW_none, errW_some] <;> rfl), by (with_reducible repeat first | apply Kd.R_alloc | apply Kd.R_drewN | apply Kd.R_drew); exact HO_1.out, by repeat (first | (with_reducible first | exact HB.out | apply below_alloc | apply pw_below_drewN | apply below_drew1 | refine below_set ?_ GE164.out) | exact HB.out), by repeat (first | (with_reducible first | exact HK.out | apply Kept.alloc | apply Kept.drewN | apply Kept.drew | refine Kept.setCell ?_ (.inr GW164.out) _) | exact HK.out)⟩)
end Go.Proofs.Ytnjdjnoncoeffaa.PDecompBack
