/- For the law NetParts, for every input: printed by a program (wip/myprint), contracts by hand where it says MANUAL. -/
-- slim
import Derived.Test.YtlkpapkcgafgeaaPNetPartsx0
import Derived.Test.YtlkpapkcgafgeaaPNetPartsx3
import Derived.Test.YtlkpapkcgafgeaaPNetPartsx6
import Derived.Test.YtlkpapkcgafgeaaPNetPartsx7
import Derived.Test.YtlkpapkcgafgeaaPNetPartsx8
import Derived.Test.YtlkpapkcgafgeaaPNetPartsx9
import Derived.Test.YtlkpapkcgafgeaaPNetPartsx13
import Derived.Test.YtlkpapkcgafgeaaPNetPartsx14
import Derived.Test.YtlkpapkcgafgeaaPNetPartsx16
namespace Go.Proofs.Ytlkpapkcgafgeaa.PNetParts
open Go.RowKit Go.Proofs.YtlkpapkcgafgeaaW.PrintWords Go.Proofs.YtlkpapkcgafgeaaW.PrintLast Go.Proofs.YtlkpapkcgafgeaaW.PrintMore
attribute [local go_sem] max2_int min2_int max_two min_two max_three min_three max_four min_four
set_option linter.unusedVariables false
set_option linter.unusedSimpArgs false
/-! ### racewaylaw3_NetParts: function 3 -/
mutual
def racewaylaw3_NetParts.j0 : Nat → List (S50) → Int → Bool → Int → Int → Int → List (S34) → Option (Bool)
 | 0, _, _, _, _, _, _, _ => none
 | k + 1, x2, x3, x34, x148000, x148001, x148002, x148003 => if x34 = true then (some false) else (racewaylaw3_NetParts.l0 k x2 x3 0 0 1 x148000 x148001 x148002 x148003)
def racewaylaw3_NetParts.l0 : Nat → List (S50) → Int → Int → Int → Int → Int → Int → Int → List (S34) → Option (Bool)
 | 0, _, _, _, _, _, _, _, _, _ => none
 | k + 1, x2, x3, x11, x12, x13, x148000, x148001, x148002, x148003 => if x13 ≤ x148000 then ((net_Out.f x148000 x148001 x148002 x148003 x13).bind fun t150 => (racewaylaw3_NetParts.l1 k x2 x3 x11 x12 x13 t150 0 x148000 x148001 x148002 x148003)) else (if x11 = (x148003.length : Int) then (if x12 = (x148003.length : Int) then ((net_Out.f x148000 x148001 x148002 x148003 0).bind fun t162 => ((net_In.f x148000 x148001 x148002 x148003 (wrap64 (x148000 + 1))).bind fun t165 => (racewaylaw3_NetParts.j3 k x2 x3 ((wrap64 ((t162.length : Int) + (t165.length : Int))) != 0) x148000 x148001 x148002 x148003))) else (racewaylaw3_NetParts.j3 k x2 x3 true x148000 x148001 x148002 x148003)) else (racewaylaw3_NetParts.j3 k x2 x3 true x148000 x148001 x148002 x148003))
def racewaylaw3_NetParts.l1 : Nat → List (S50) → Int → Int → Int → Int → List Int → Int → Int → Int → Int → List (S34) → Option (Bool)
 | 0, _, _, _, _, _, _, _, _, _, _, _ => none
 | k + 1, x2, x3, x11, x12, x13, x14, x15, x148000, x148001, x148002, x148003 => if x15 < (x14.length : Int) then (if 0 ≤ x15 then (if (rd x14 x15) < 0 then (some false) else (if (rd x14 x15) ≥ (x148003.length : Int) then (some false) else (if 0 ≤ (rd x14 x15) then (if (rd x14 x15) < (x148003.length : Int) then (if ((rd_T34 x148003 (rd x14 x15)).f0) = x13 then (if x15 > 0 then (if 0 ≤ (wrap64 (x15 - 1)) then (if (wrap64 (x15 - 1)) < (x14.length : Int) then (if (rd x14 x15) ≤ (rd x14 (wrap64 (x15 - 1))) then (some false) else (racewaylaw3_NetParts.l1 k x2 x3 x11 x12 x13 x14 (wrap64 (x15 + 1)) x148000 x148001 x148002 x148003)) else (none)) else (none)) else (racewaylaw3_NetParts.l1 k x2 x3 x11 x12 x13 x14 (wrap64 (x15 + 1)) x148000 x148001 x148002 x148003)) else (some false)) else (none)) else (none)))) else (none)) else ((net_In.f x148000 x148001 x148002 x148003 x13).bind fun t159 => (racewaylaw3_NetParts.l0 k x2 x3 (wrap64 (x11 + (x14.length : Int))) (wrap64 (x12 + (t159.length : Int))) (wrap64 (x13 + 1)) x148000 x148001 x148002 x148003))
def racewaylaw3_NetParts.j3 : Nat → List (S50) → Int → Bool → Int → Int → Int → List (S34) → Option (Bool)
 | 0, _, _, _, _, _, _, _ => none
 | k + 1, x2, x3, x128, x148000, x148001, x148002, x148003 => if x128 = true then (some false) else ((net_Copy.f x148000 x148001 x148002 x148003).bind fun bt168 => (if bt168.2.2.2.length < 5864062014805 then ((some (bt168.2.2.2 ++ [(⟨x148002, x148001, 0⟩ : S34)] : List (S34))).bind fun y175 => ((net_Copy.f x148000 x148001 x148002 x148003).bind fun bt178 => (if (x2.length : Int) > 0 then ((racewaylaw3_pick.f x3 (bt178.2.2.2.length : Int)).bind fun t185 => ((some (([] : List (S34)) : List (S34))).bind fun y186 => (if 0 ≤ t185 then (if t185 ≤ (bt178.2.2.2.length : Int) then ((some (bt178.2.2.2.take (t185 : Int).toNat : List (S34))).bind fun y189 => (if y186.length + y189.length < 5864062014805 then ((some (y186 ++ y189 : List (S34))).bind fun y193 => (if 0 ≤ (wrap64 (t185 + 1)) then (if (wrap64 (t185 + 1)) ≤ (bt178.2.2.2.length : Int) then ((some (bt178.2.2.2.drop ((wrap64 (t185 + 1)) : Int).toNat : List (S34))).bind fun y196 => (if y193.length + y196.length < 5864062014805 then ((net_Check.f bt168.1 bt168.2.1 bt168.2.2.1 y175).bind fun t203 => (if t203 = 0 then ((net_Check.f bt178.1 bt178.2.1 bt178.2.2.1 (y193 ++ y196)).bind fun t204 => (if t204 = 0 then ((net_Same.f bt168.1 bt168.2.1 bt168.2.2.1 y175 x148000 x148001 x148002 x148003).bind fun t205 => (some (!t205))) else (some false))) else (some false))) else (none))) else (none)) else (none))) else (none))) else (none)) else (none)))) else ((net_Check.f bt168.1 bt168.2.1 bt168.2.2.1 y175).bind fun t206 => (if t206 = 0 then ((net_Check.f bt178.1 bt178.2.1 bt178.2.2.1 bt178.2.2.2).bind fun t207 => (if t207 = 0 then ((net_Same.f bt168.1 bt168.2.1 bt168.2.2.1 y175 x148000 x148001 x148002 x148003).bind fun t208 => (some (!t208))) else (some false))) else (some false)))))) else (none)))
end
def racewaylaw3_NetParts.f (k : Nat) (a0 : Int) (a1 : Int) (l2 : List (S50)) (a3 : Int) : Option (Bool) := (racewaylaw3_shown.f).bind fun t140 => (if t140 = true then ((racewaylaw3_made.f k a0 a1 l2).bind fun bt141 => ((net_Check.f bt141.1 bt141.2.1 bt141.2.2.1 bt141.2.2.2).bind fun t148 => (if t148 = 0 then ((net_Same.f bt141.1 bt141.2.1 bt141.2.2.1 bt141.2.2.2 bt141.1 bt141.2.1 bt141.2.2.1 bt141.2.2.2).bind fun t149 => (racewaylaw3_NetParts.j0 k l2 a3 (!t149) bt141.1 bt141.2.1 bt141.2.2.1 bt141.2.2.2)) else (racewaylaw3_NetParts.j0 k l2 a3 true bt141.1 bt141.2.1 bt141.2.2.1 bt141.2.2.2)))) else (some false))
theorem racewaylaw3_NetParts.mono_l : ∀ k, (∀ y0 y1 y2 y3 y4 y5 y6, LeO (racewaylaw3_NetParts.j0 k y0 y1 y2 y3 y4 y5 y6) (racewaylaw3_NetParts.j0 (k + 1) y0 y1 y2 y3 y4 y5 y6)) ∧ (∀ y0 y1 y2 y3 y4 y5 y6 y7 y8, LeO (racewaylaw3_NetParts.l0 k y0 y1 y2 y3 y4 y5 y6 y7 y8) (racewaylaw3_NetParts.l0 (k + 1) y0 y1 y2 y3 y4 y5 y6 y7 y8)) ∧ (∀ y0 y1 y2 y3 y4 y5 y6 y7 y8 y9 y10, LeO (racewaylaw3_NetParts.l1 k y0 y1 y2 y3 y4 y5 y6 y7 y8 y9 y10) (racewaylaw3_NetParts.l1 (k + 1) y0 y1 y2 y3 y4 y5 y6 y7 y8 y9 y10)) ∧ (∀ y0 y1 y2 y3 y4 y5 y6, LeO (racewaylaw3_NetParts.j3 k y0 y1 y2 y3 y4 y5 y6) (racewaylaw3_NetParts.j3 (k + 1) y0 y1 y2 y3 y4 y5 y6))
 | 0 => ⟨fun _ _ _ _ _ _ _ r h => by simp [racewaylaw3_NetParts.j0] at h, fun _ _ _ _ _ _ _ _ _ r h => by simp [racewaylaw3_NetParts.l0] at h, fun _ _ _ _ _ _ _ _ _ _ _ r h => by simp [racewaylaw3_NetParts.l1] at h, fun _ _ _ _ _ _ _ r h => by simp [racewaylaw3_NetParts.j3] at h⟩
 | k + 1 => by
  obtain ⟨ih0, ih1, ih2, ih3⟩ := racewaylaw3_NetParts.mono_l k
  refine ⟨?_, ?_, ?_, ?_⟩
  ·intro y0 y1 y2 y3 y4 y5 y6
   unfold racewaylaw3_NetParts.j0
   repeat' first
   | (with_reducible exact ih0 _ _ _ _ _ _ _)
   | (with_reducible exact ih1 _ _ _ _ _ _ _ _ _)
   | (with_reducible exact ih2 _ _ _ _ _ _ _ _ _ _ _)
   | (with_reducible exact ih3 _ _ _ _ _ _ _)
   | (with_reducible exact racewaylaw3_made.mono _ _ _ _)
   | (with_reducible exact LeO.refl _)
   | (with_reducible exact LeO.none _)
   | (with_reducible refine LeO.ite ?_ ?_)
   | (with_reducible refine LeO.bind ?_ (fun _ => ?_))
   | exact ih0 _ _ _ _ _ _ _
   | exact ih1 _ _ _ _ _ _ _ _ _
   | exact ih2 _ _ _ _ _ _ _ _ _ _ _
   | exact ih3 _ _ _ _ _ _ _
   | exact racewaylaw3_made.mono _ _ _ _
   | exact LeO.none _
   | refine LeO.ite ?_ ?_
   | refine LeO.bind ?_ (fun _ => ?_)
  ·intro y0 y1 y2 y3 y4 y5 y6 y7 y8
   unfold racewaylaw3_NetParts.l0
   repeat' first
   | (with_reducible exact ih0 _ _ _ _ _ _ _)
   | (with_reducible exact ih1 _ _ _ _ _ _ _ _ _)
   | (with_reducible exact ih2 _ _ _ _ _ _ _ _ _ _ _)
   | (with_reducible exact ih3 _ _ _ _ _ _ _)
   | (with_reducible exact racewaylaw3_made.mono _ _ _ _)
   | (with_reducible exact LeO.refl _)
   | (with_reducible exact LeO.none _)
   | (with_reducible refine LeO.ite ?_ ?_)
   | (with_reducible refine LeO.bind ?_ (fun _ => ?_))
   | exact ih0 _ _ _ _ _ _ _
   | exact ih1 _ _ _ _ _ _ _ _ _
   | exact ih2 _ _ _ _ _ _ _ _ _ _ _
   | exact ih3 _ _ _ _ _ _ _
   | exact racewaylaw3_made.mono _ _ _ _
   | exact LeO.none _
   | refine LeO.ite ?_ ?_
   | refine LeO.bind ?_ (fun _ => ?_)
  ·intro y0 y1 y2 y3 y4 y5 y6 y7 y8 y9 y10
   unfold racewaylaw3_NetParts.l1
   repeat' first
   | (with_reducible exact ih0 _ _ _ _ _ _ _)
   | (with_reducible exact ih1 _ _ _ _ _ _ _ _ _)
   | (with_reducible exact ih2 _ _ _ _ _ _ _ _ _ _ _)
   | (with_reducible exact ih3 _ _ _ _ _ _ _)
   | (with_reducible exact racewaylaw3_made.mono _ _ _ _)
   | (with_reducible exact LeO.refl _)
   | (with_reducible exact LeO.none _)
   | (with_reducible refine LeO.ite ?_ ?_)
   | (with_reducible refine LeO.bind ?_ (fun _ => ?_))
   | exact ih0 _ _ _ _ _ _ _
   | exact ih1 _ _ _ _ _ _ _ _ _
   | exact ih2 _ _ _ _ _ _ _ _ _ _ _
   | exact ih3 _ _ _ _ _ _ _
   | exact racewaylaw3_made.mono _ _ _ _
   | exact LeO.none _
   | refine LeO.ite ?_ ?_
   | refine LeO.bind ?_ (fun _ => ?_)
  ·intro y0 y1 y2 y3 y4 y5 y6
   unfold racewaylaw3_NetParts.j3
   repeat' first
   | (with_reducible exact ih0 _ _ _ _ _ _ _)
   | (with_reducible exact ih1 _ _ _ _ _ _ _ _ _)
   | (with_reducible exact ih2 _ _ _ _ _ _ _ _ _ _ _)
   | (with_reducible exact ih3 _ _ _ _ _ _ _)
   | (with_reducible exact racewaylaw3_made.mono _ _ _ _)
   | (with_reducible exact LeO.refl _)
   | (with_reducible exact LeO.none _)
   | (with_reducible refine LeO.ite ?_ ?_)
   | (with_reducible refine LeO.bind ?_ (fun _ => ?_))
   | exact ih0 _ _ _ _ _ _ _
   | exact ih1 _ _ _ _ _ _ _ _ _
   | exact ih2 _ _ _ _ _ _ _ _ _ _ _
   | exact ih3 _ _ _ _ _ _ _
   | exact racewaylaw3_made.mono _ _ _ _
   | exact LeO.none _
   | refine LeO.ite ?_ ?_
   | refine LeO.bind ?_ (fun _ => ?_)
theorem racewaylaw3_NetParts.mono : ∀ a0 a1 a2 a3 k, LeO (racewaylaw3_NetParts.f k a0 a1 a2 a3) (racewaylaw3_NetParts.f (k + 1) a0 a1 a2 a3) := by
 intro a0 a1 a2 a3 k
 obtain ⟨ih0, ih1, ih2, ih3⟩ := racewaylaw3_NetParts.mono_l k
 unfold racewaylaw3_NetParts.f
 repeat' first
   | (with_reducible exact ih0 _ _ _ _ _ _ _)
   | (with_reducible exact ih1 _ _ _ _ _ _ _ _ _)
   | (with_reducible exact ih2 _ _ _ _ _ _ _ _ _ _ _)
   | (with_reducible exact ih3 _ _ _ _ _ _ _)
   | (with_reducible exact racewaylaw3_made.mono _ _ _ _)
   | (with_reducible exact LeO.refl _)
   | (with_reducible exact LeO.none _)
   | (with_reducible refine LeO.ite ?_ ?_)
   | (with_reducible refine LeO.bind ?_ (fun _ => ?_))
   | exact ih0 _ _ _ _ _ _ _
   | exact ih1 _ _ _ _ _ _ _ _ _
   | exact ih2 _ _ _ _ _ _ _ _ _ _ _
   | exact ih3 _ _ _ _ _ _ _
   | exact racewaylaw3_made.mono _ _ _ _
   | exact LeO.none _
   | refine LeO.ite ?_ ?_
   | refine LeO.bind ?_ (fun _ => ?_)
def racewaylaw3_NetParts.T16 : Bool × List (List Nat × List Nat) := (true, [([], []), ([], []), ([0, 1], [0, 1]), ([2], [2]), ([3], [3]), ([4], [4]), ([5], [5]), ([5], [5]), ([6, 7, 5], [5, 6, 7]), ([8, 5], [5, 8]), ([5], [5]), ([10, 5], [5, 10]), ([11, 5], [5, 11]), ([9, 12, 5], [5, 9, 12]), ([5, 13], [5, 13]), ([14, 5], [14]), ([15], [15]), ([16, 15], [15, 16]), ([15], [15]), ([15], [15]), ([18, 19, 15], [15, 18, 19]), ([20, 15], [15, 20]), ([17, 21, 15], [15, 17, 21]), ([22, 15], [15, 22]), ([23, 15], [15, 23]), ([15], [15]), ([24, 25, 15], [15, 24, 25]), ([15, 26], [15, 26]), ([27, 15], [27]), ([28], [28]), ([29, 28], [28, 29]), ([30, 28, 28], [28, 30]), ([31], [31]), ([31], [31]), ([32, 33, 31], [31, 32, 33]), ([34, 31], [31, 34]), ([31], [31]), ([31], [31]), ([37, 31], [31, 37]), ([36, 38, 31], [31, 36, 38]), ([39, 31], [31, 39]), ([35, 40, 31], [31, 35, 40]), ([31, 41, 28], [28, 31, 41]), ([28, 42], [28, 42])])
def racewaylaw3_NetParts.B16 : List Nat := [0, 0, 3, 7, 15, 31, 63, 63, 255, 511, 63, 1087, 3135, 8191, 16383, 32767, 65535, 131071, 65535, 65535, 851967, 1900543, 4194303, 8388607, 16777215, 65535, 67108863, 134217727, 268435455, 536870911, 1073741823, 2147483647, 4294967295, 4294967295, 17179869183, 34359738367, 4294967295, 4294967295, 141733920767, 485331304447, 1035087118335, 2199023255551, 4398046511103, 8796093022207]
theorem racewaylaw3_NetParts.tab16 : rtab .any (opsOf Try.f3 16) = racewaylaw3_NetParts.T16 := by kernel_rfl
theorem racewaylaw3_NetParts.bits16 : waitsOk racewaylaw3_NetParts.T16.2 racewaylaw3_NetParts.B16 = true := by kernel_rfl
def racewaylaw3_NetParts.T20 : Bool × List (List Nat × List Nat) := (true, [([], []), ([], []), ([1], [1]), ([2], [2]), ([0, 3], [0, 3]), ([4], [4]), ([5], [5]), ([5], [5]), ([7, 5], [5, 7]), ([8, 5], [5, 8]), ([6, 9, 5], [5, 6, 9]), ([5, 10], [5, 10]), ([11, 5], [11]), ([12], [12]), ([13, 12, 12], [12, 13]), ([14, 12], [12, 14]), ([12], [12]), ([12], [12]), ([17, 12], [12, 17]), ([18, 12], [12, 18]), ([16, 19, 14, 12], [12, 16, 19]), ([20, 12], [12, 20]), ([15, 21, 12], [12, 15, 21]), ([22, 12], [12, 22]), ([12, 23], [12, 23])])
def racewaylaw3_NetParts.B20 : List Nat := [0, 0, 2, 6, 15, 31, 63, 63, 191, 447, 1023, 2047, 4095, 8191, 16383, 32767, 8191, 8191, 139263, 401407, 1015807, 2064383, 4194303, 8388607, 16777215]
theorem racewaylaw3_NetParts.tab20 : rtab .any (opsOf Try.f3 20) = racewaylaw3_NetParts.T20 := by kernel_rfl
theorem racewaylaw3_NetParts.bits20 : waitsOk racewaylaw3_NetParts.T20.2 racewaylaw3_NetParts.B20 = true := by kernel_rfl
def racewaylaw3_NetParts.T27 : Bool × List (List Nat × List Nat) := (true, [([], []), ([], []), ([1], [1]), ([], []), ([2, 3], [2, 3]), ([0, 4], [0, 4]), ([], []), ([6], [6]), ([], []), ([8], [8]), ([7, 9], [7, 9]), ([5, 10, 5], [5, 10]), ([0, 1, 2, 3, 4, 5, 6, 7, 8, 9, 10, 11], []), ([12, 11, 11, 0, 1, 2, 3, 4, 5, 6, 7, 8, 9, 10, 11], [11, 12])])
def racewaylaw3_NetParts.B27 : List Nat := [0, 0, 2, 0, 14, 31, 0, 64, 0, 256, 960, 2047, 4095, 8191]
theorem racewaylaw3_NetParts.tab27 : rtab .any (opsOf Try.f3 27) = racewaylaw3_NetParts.T27 := by kernel_rfl
theorem racewaylaw3_NetParts.bits27 : waitsOk racewaylaw3_NetParts.T27.2 racewaylaw3_NetParts.B27 = true := by kernel_rfl
def m0_ : Array Bool := #[false, false, false, false, false, false, false, false, false, false, false, false, false, false, false, false, false, false, false, false, false, false, false, false, false, false, false, false, false, false, false, false, false, false, false, false, false, false, false, false, false, false, false, false]
def m1_ : Array Bool := #[true, false, false, false, false, false, false, false, false, false, false, false, false, false, false, false, false, false, false, false, false, false, false, false, false, false, false, false, false, false, false, false, false, false, false, false, false, false, false, false, false, false, false, false]
def m2_ : Array Bool := #[true, true, false, false, false, false, false, false, false, false, false, false, false, false, false, false, false, false, false, false, false, false, false, false, false, false, false, false, false, false, false, false, false, false, false, false, false, false, false, false, false, false, false, false]
def m3_ : Array Bool := #[true, true, true, false, false, false, false, false, false, false, false, false, false, false, false, false, false, false, false, false, false, false, false, false, false, false, false, false, false, false, false, false, false, false, false, false, false, false, false, false, false, false, false, false]
def m4_ : Array Bool := #[true, true, true, true, false, false, false, false, false, false, false, false, false, false, false, false, false, false, false, false, false, false, false, false, false, false, false, false, false, false, false, false, false, false, false, false, false, false, false, false, false, false, false, false]
def m5_ : Array Bool := #[true, true, true, true, true, false, false, false, false, false, false, false, false, false, false, false, false, false, false, false, false, false, false, false, false, false, false, false, false, false, false, false, false, false, false, false, false, false, false, false, false, false, false, false]
def m6_ : Array Bool := #[true, true, true, true, true, true, false, false, false, false, false, false, false, false, false, false, false, false, false, false, false, false, false, false, false, false, false, false, false, false, false, false, false, false, false, false, false, false, false, false, false, false, false, false]
def m7_ : Array Bool := #[true, true, true, true, true, true, true, false, false, false, false, false, false, false, false, false, false, false, false, false, false, false, false, false, false, false, false, false, false, false, false, false, false, false, false, false, false, false, false, false, false, false, false, false]
def m8_ : Array Bool := #[true, true, true, true, true, true, true, true, false, false, false, false, false, false, false, false, false, false, false, false, false, false, false, false, false, false, false, false, false, false, false, false, false, false, false, false, false, false, false, false, false, false, false, false]
def m9_ : Array Bool := #[true, true, true, true, true, true, true, true, true, false, false, false, false, false, false, false, false, false, false, false, false, false, false, false, false, false, false, false, false, false, false, false, false, false, false, false, false, false, false, false, false, false, false, false]
def m10_ : Array Bool := #[true, true, true, true, true, true, true, true, true, false, true, false, false, false, false, false, false, false, false, false, false, false, false, false, false, false, false, false, false, false, false, false, false, false, false, false, false, false, false, false, false, false, false, false]
def m11_ : Array Bool := #[true, true, true, true, true, true, true, true, true, true, true, false, false, false, false, false, false, false, false, false, false, false, false, false, false, false, false, false, false, false, false, false, false, false, false, false, false, false, false, false, false, false, false, false]
def m12_ : Array Bool := #[true, true, true, true, true, true, true, true, true, true, true, true, false, false, false, false, false, false, false, false, false, false, false, false, false, false, false, false, false, false, false, false, false, false, false, false, false, false, false, false, false, false, false, false]
def m13_ : Array Bool := #[true, true, true, true, true, true, true, true, true, true, true, true, true, false, false, false, false, false, false, false, false, false, false, false, false, false, false, false, false, false, false, false, false, false, false, false, false, false, false, false, false, false, false, false]
def m14_ : Array Bool := #[true, true, true, true, true, true, true, true, true, true, true, true, true, true, false, false, false, false, false, false, false, false, false, false, false, false, false, false, false, false, false, false, false, false, false, false, false, false, false, false, false, false, false, false]
def m15_ : Array Bool := #[true, true, true, true, true, true, true, true, true, true, true, true, true, true, true, false, false, false, false, false, false, false, false, false, false, false, false, false, false, false, false, false, false, false, false, false, false, false, false, false, false, false, false, false]
def m16_ : Array Bool := #[true, true, true, true, true, true, true, true, true, true, true, true, true, true, true, true, false, false, false, false, false, false, false, false, false, false, false, false, false, false, false, false, false, false, false, false, false, false, false, false, false, false, false, false]
def m17_ : Array Bool := #[true, true, true, true, true, true, true, true, true, true, true, true, true, true, true, true, true, false, false, false, false, false, false, false, false, false, false, false, false, false, false, false, false, false, false, false, false, false, false, false, false, false, false, false]
def m18_ : Array Bool := #[true, true, true, true, true, true, true, true, true, true, true, true, true, true, true, true, true, false, true, false, false, false, false, false, false, false, false, false, false, false, false, false, false, false, false, false, false, false, false, false, false, false, false, false]
def m19_ : Array Bool := #[true, true, true, true, true, true, true, true, true, true, true, true, true, true, true, true, true, false, true, true, false, false, false, false, false, false, false, false, false, false, false, false, false, false, false, false, false, false, false, false, false, false, false, false]
def m20_ : Array Bool := #[true, true, true, true, true, true, true, true, true, true, true, true, true, true, true, true, true, false, true, true, true, false, false, false, false, false, false, false, false, false, false, false, false, false, false, false, false, false, false, false, false, false, false, false]
def m21_ : Array Bool := #[true, true, true, true, true, true, true, true, true, true, true, true, true, true, true, true, true, false, true, true, true, false, false, false, false, true, false, false, false, false, false, false, false, false, false, false, false, false, false, false, false, false, false, false]
def m22_ : Array Bool := #[true, true, true, true, true, true, true, true, true, true, true, true, true, true, true, true, true, true, true, true, true, false, false, false, false, true, false, false, false, false, false, false, false, false, false, false, false, false, false, false, false, false, false, false]
def m23_ : Array Bool := #[true, true, true, true, true, true, true, true, true, true, true, true, true, true, true, true, true, true, true, true, true, true, false, false, false, true, false, false, false, false, false, false, false, false, false, false, false, false, false, false, false, false, false, false]
def m24_ : Array Bool := #[true, true, true, true, true, true, true, true, true, true, true, true, true, true, true, true, true, true, true, true, true, true, true, false, false, true, false, false, false, false, false, false, false, false, false, false, false, false, false, false, false, false, false, false]
def m25_ : Array Bool := #[true, true, true, true, true, true, true, true, true, true, true, true, true, true, true, true, true, true, true, true, true, true, true, true, false, true, false, false, false, false, false, false, false, false, false, false, false, false, false, false, false, false, false, false]
def m26_ : Array Bool := #[true, true, true, true, true, true, true, true, true, true, true, true, true, true, true, true, true, true, true, true, true, true, true, true, true, true, false, false, false, false, false, false, false, false, false, false, false, false, false, false, false, false, false, false]
def m27_ : Array Bool := #[true, true, true, true, true, true, true, true, true, true, true, true, true, true, true, true, true, true, true, true, true, true, true, true, true, true, true, false, false, false, false, false, false, false, false, false, false, false, false, false, false, false, false, false]
def m28_ : Array Bool := #[true, true, true, true, true, true, true, true, true, true, true, true, true, true, true, true, true, true, true, true, true, true, true, true, true, true, true, true, false, false, false, false, false, false, false, false, false, false, false, false, false, false, false, false]
def m29_ : Array Bool := #[true, true, true, true, true, true, true, true, true, true, true, true, true, true, true, true, true, true, true, true, true, true, true, true, true, true, true, true, true, false, false, false, false, false, false, false, false, false, false, false, false, false, false, false]
def m30_ : Array Bool := #[true, true, true, true, true, true, true, true, true, true, true, true, true, true, true, true, true, true, true, true, true, true, true, true, true, true, true, true, true, true, false, false, false, false, false, false, false, false, false, false, false, false, false, false]
def m31_ : Array Bool := #[true, true, true, true, true, true, true, true, true, true, true, true, true, true, true, true, true, true, true, true, true, true, true, true, true, true, true, true, true, true, true, false, false, false, false, false, false, false, false, false, false, false, false, false]
def m32_ : Array Bool := #[true, true, true, true, true, true, true, true, true, true, true, true, true, true, true, true, true, true, true, true, true, true, true, true, true, true, true, true, true, true, true, true, false, false, false, false, false, false, false, false, false, false, false, false]
def m33_ : Array Bool := #[true, true, true, true, true, true, true, true, true, true, true, true, true, true, true, true, true, true, true, true, true, true, true, true, true, true, true, true, true, true, true, true, true, false, false, false, false, false, false, false, false, false, false, false]
def m34_ : Array Bool := #[true, true, true, true, true, true, true, true, true, true, true, true, true, true, true, true, true, true, true, true, true, true, true, true, true, true, true, true, true, true, true, true, true, true, false, false, false, false, false, false, false, false, false, false]
def m35_ : Array Bool := #[true, true, true, true, true, true, true, true, true, true, true, true, true, true, true, true, true, true, true, true, true, true, true, true, true, true, true, true, true, true, true, true, true, true, true, false, false, false, false, false, false, false, false, false]
def m36_ : Array Bool := #[true, true, true, true, true, true, true, true, true, true, true, true, true, true, true, true, true, true, true, true, true, true, true, true, true, true, true, true, true, true, true, true, true, true, true, true, true, true, true, true, false, false, false, false]
def m37_ : Array Bool := #[true, true, true, true, true, true, true, true, true, true, true, true, true, true, true, true, true, true, true, true, true, true, true, true, true, true, true, true, true, true, true, true, true, true, true, true, true, true, true, true, true, false, false, false]
def m38_ : Array Bool := #[true, true, true, true, true, true, true, true, true, true, true, true, true, true, true, true, true, true, true, true, true, true, true, true, true, true, true, true, true, true, true, true, true, true, true, true, true, true, true, true, true, true, false, false]
def m39_ : Array Bool := #[true, true, true, true, true, true, true, true, true, true, true, true, true, true, true, true, true, true, true, true, true, true, true, true, true, true, true, true, true, true, true, true, true, true, true, true, true, true, true, true, true, true, true, false]
def m40_ : Array Bool := #[true, true, true, true, true, true, true, true, true, true, true, true, true, true, true, true, true, true, true, true, true, true, true, true, true, true, true, true, true, true, true, true, true, true, true, true, true, true, true, true, true, true, true, true]
def m41_ : Array Bool := #[false, false, false, false, false, false, false, false, false, false, false, false, false, false, false, false, false, false, false, false, false, false, false, false, false]
def m42_ : Array Bool := #[true, false, false, false, false, false, false, false, false, false, false, false, false, false, false, false, false, false, false, false, false, false, false, false, false]
def m43_ : Array Bool := #[true, true, false, false, false, false, false, false, false, false, false, false, false, false, false, false, false, false, false, false, false, false, false, false, false]
def m44_ : Array Bool := #[true, true, true, false, false, false, false, false, false, false, false, false, false, false, false, false, false, false, false, false, false, false, false, false, false]
def m45_ : Array Bool := #[true, true, true, true, false, false, false, false, false, false, false, false, false, false, false, false, false, false, false, false, false, false, false, false, false]
def m46_ : Array Bool := #[true, true, true, true, true, false, false, false, false, false, false, false, false, false, false, false, false, false, false, false, false, false, false, false, false]
def m47_ : Array Bool := #[true, true, true, true, true, true, false, false, false, false, false, false, false, false, false, false, false, false, false, false, false, false, false, false, false]
def m48_ : Array Bool := #[true, true, true, true, true, true, true, false, false, false, false, false, false, false, false, false, false, false, false, false, false, false, false, false, false]
def m49_ : Array Bool := #[true, true, true, true, true, true, true, true, false, false, false, false, false, false, false, false, false, false, false, false, false, false, false, false, false]
def m50_ : Array Bool := #[true, true, true, true, true, true, true, true, true, false, false, false, false, false, false, false, false, false, false, false, false, false, false, false, false]
def m51_ : Array Bool := #[true, true, true, true, true, true, true, true, true, true, false, false, false, false, false, false, false, false, false, false, false, false, false, false, false]
def m52_ : Array Bool := #[true, true, true, true, true, true, true, true, true, true, true, false, false, false, false, false, false, false, false, false, false, false, false, false, false]
def m53_ : Array Bool := #[true, true, true, true, true, true, true, true, true, true, true, true, false, false, false, false, false, false, false, false, false, false, false, false, false]
def m54_ : Array Bool := #[true, true, true, true, true, true, true, true, true, true, true, true, true, false, false, false, false, false, false, false, false, false, false, false, false]
def m55_ : Array Bool := #[true, true, true, true, true, true, true, true, true, true, true, true, true, true, true, true, true, true, true, true, false, false, false, false, false]
def m56_ : Array Bool := #[true, true, true, true, true, true, true, true, true, true, true, true, true, true, true, true, true, true, true, true, true, false, false, false, false]
def m57_ : Array Bool := #[true, true, true, true, true, true, true, true, true, true, true, true, true, true, true, true, true, true, true, true, true, true, false, false, false]
def m58_ : Array Bool := #[true, true, true, true, true, true, true, true, true, true, true, true, true, true, true, true, true, true, true, true, true, true, true, false, false]
def m59_ : Array Bool := #[true, true, true, true, true, true, true, true, true, true, true, true, true, true, true, true, true, true, true, true, true, true, true, true, false]
def m60_ : Array Bool := #[true, true, true, true, true, true, true, true, true, true, true, true, true, true, true, true, true, true, true, true, true, true, true, true, true]
def m61_ : Array Bool := #[true, true, true, true, true, true, true, true, true, true, true, true, true, true, false, false, false, false, false, false, false, false, false, false, false]
def m62_ : Array Bool := #[true, true, true, true, true, true, true, true, true, true, true, true, true, true, true, false, false, false, false, false, false, false, false, false, false]
def m63_ : Array Bool := #[true, true, true, true, true, true, true, true, true, true, true, true, true, true, true, true, false, false, false, false, false, false, false, false, false]
def m64_ : Array Bool := #[true, true, true, true, true, true, true, true, true, true, true, true, true, true, true, true, true, false, false, false, false, false, false, false, false]
def m65_ : Array Bool := #[true, true, true, true, true, true, true, true, true, true, true, true, true, true, true, true, true, true, false, false, false, false, false, false, false]
def m66_ : Array Bool := #[true, true, true, true, true, true, true, true, true, true, true, true, true, true, true, true, true, true, true, false, false, false, false, false, false]
/-- THE ONE PURE STATEMENT of racewaylaw3_NetParts. -/
def racewaylaw3_NetParts.Pure : Prop := ∀ (a0 : Int) (a1 : Int) (l2 : List (S50)) (a3 : Int), (Lit.int .i64 a0).wf = true → (Lit.int .i64 a1).wf = true → l2.length ≤ maxLen → (∀ x ∈ l2, (Lit.int .i64 x.f0).wf = true ∧ (Lit.int .i64 x.f1).wf = true ∧ (Lit.int .i64 x.f2).wf = true) → (Lit.int .i64 a3).wf = true → ∃ k, racewaylaw3_NetParts.f k a0 a1 l2 a3 = some true
end Go.Proofs.Ytlkpapkcgafgeaa.PNetParts
