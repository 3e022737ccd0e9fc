/- For the law PlainFills, for every input: printed by a program (wip/myprint), contracts by hand where it says MANUAL. -/
-- slim
import Derived.Test.YtdiaedecnfbgdaaPPlainFillsx0
import Derived.Test.YtdiaedecnfbgdaaPPlainFillsx6
import Derived.Test.YtdiaedecnfbgdaaPPlainFillsx17
import Derived.Test.YtdiaedecnfbgdaaPPlainFillsx18
import Derived.Test.YtdiaedecnfbgdaaPPlainFillsx19
import Derived.Test.YtdiaedecnfbgdaaPPlainFillsx20
import Derived.Test.YtdiaedecnfbgdaaPPlainFillsx22
namespace Go.Proofs.Ytdiaedecnfbgdaa.PPlainFills
open Go.RowKit Go.Proofs.YtdiaedecnfbgdaaW.PrintWords Go.Proofs.YtdiaedecnfbgdaaW.PrintLast Go.Proofs.YtdiaedecnfbgdaaW.PrintMore
attribute [local go_sem] max2_int min2_int max_two min_two max_three min_three max_four min_four
set_option linter.unusedVariables false
set_option linter.unusedSimpArgs false
/-! ### racewaylaw8_PlainFills: function 8 -/
mutual
def racewaylaw8_PlainFills.l0 : Nat → Int → List (S61) → List Int → Int → Option (Bool)
 | 0, _, _, _, _ => none
 | k + 1, x14, x16, x18, x20 => if x20 < (x16.length : Int) then (if 0 ≤ x20 then (racewaylaw8_PlainFills.l1 k x14 x16 x18 x20 ((rd_T61 x16 x20).f0) false 0) else (none)) else (some true)
def racewaylaw8_PlainFills.l1 : Nat → Int → List (S61) → List Int → Int → List Int → Bool → Int → Option (Bool)
 | 0, _, _, _, _, _, _, _ => none
 | k + 1, x14, x16, x18, x20, x21, x22, x23 => if x23 < (x21.length : Int) then (if 0 ≤ x23 then (if 0 ≤ (rd x21 x23) then (if (rd x21 x23) < (x18.length : Int) then (if 0 ≤ x20 then (if x20 < (x16.length : Int) then ((some (x18.set ((rd x21 x23) : Int).toNat (wrap64 ((rd x18 (rd x21 x23)) - ((rd_T61 x16 x20).f1))) : List Int)).bind fun y252 => (if x22 = true then (if (wrap64 ((rd x18 (rd x21 x23)) - ((rd_T61 x16 x20).f1))) < 0 then (some false) else (racewaylaw8_PlainFills.l1 k x14 x16 y252 x20 x21 true (wrap64 (x23 + 1)))) else (if (wrap64 ((rd x18 (rd x21 x23)) - ((rd_T61 x16 x20).f1))) < 0 then (some false) else (racewaylaw8_PlainFills.l1 k x14 x16 y252 x20 x21 (decide ((wrap64 ((rd x18 (rd x21 x23)) - ((rd_T61 x16 x20).f1))) < x14)) (wrap64 (x23 + 1)))))) else (none)) else (none)) else (none)) else (none)) else (none)) else (if x22 = true then (if 0 ≤ x20 then (if x20 < (x16.length : Int) then (racewaylaw8_PlainFills.j2 k x14 x16 x18 x20 x21 (decide (((rd_T61 x16 x20).f1) < x14))) else (none)) else (none)) else (racewaylaw8_PlainFills.j2 k x14 x16 x18 x20 x21 true))
def racewaylaw8_PlainFills.j2 : Nat → Int → List (S61) → List Int → Int → List Int → Bool → Option (Bool)
 | 0, _, _, _, _, _, _ => none
 | k + 1, x14, x16, x18, x20, x21, x122 => if x122 = true then (some false) else (racewaylaw8_PlainFills.l2 k x14 x16 x18 x20 x21 (x20 == 0) 0)
def racewaylaw8_PlainFills.l2 : Nat → Int → List (S61) → List Int → Int → List Int → Bool → Int → Option (Bool)
 | 0, _, _, _, _, _, _, _ => none
 | k + 1, x14, x16, x18, x20, x21, x24, x25 => if x20 > 0 then (if x25 < (x21.length : Int) then (racewaylaw8_PlainFills.j4 k x14 x16 x18 x20 x21 x24 x25 (!x24)) else (racewaylaw8_PlainFills.j4 k x14 x16 x18 x20 x21 x24 x25 false)) else (racewaylaw8_PlainFills.j4 k x14 x16 x18 x20 x21 x24 x25 false)
def racewaylaw8_PlainFills.j4 : Nat → Int → List (S61) → List Int → Int → List Int → Bool → Int → Bool → Option (Bool)
 | 0, _, _, _, _, _, _, _, _ => none
 | k + 1, x14, x16, x18, x20, x21, x24, x25, x136 => if x136 = true then (if 0 ≤ (wrap64 (x20 - 1)) then (if (wrap64 (x20 - 1)) < (x16.length : Int) then (if 0 ≤ x25 then (if x25 < (((rd_T61 x16 (wrap64 (x20 - 1))).f0).length : Int) then (if x25 < (x21.length : Int) then (if (rd x21 x25) < (rd ((rd_T61 x16 (wrap64 (x20 - 1))).f0) x25) then (some false) else (racewaylaw8_PlainFills.l2 k x14 x16 x18 x20 x21 (decide ((rd x21 x25) > (rd ((rd_T61 x16 (wrap64 (x20 - 1))).f0) x25))) (wrap64 (x25 + 1)))) else (none)) else (none)) else (none)) else (none)) else (none)) else (if x24 = true then (racewaylaw8_PlainFills.l0 k x14 x16 x18 (wrap64 (x20 + 1))) else (some false))
end
def racewaylaw8_PlainFills.f (k : Nat) (a0 : Int) (a1 : Int) (l2 : List (S91)) (l3 : List Int) (a4 : Int) : Option (Bool) := (racewaylaw8_shown.f k).bind fun t224 => (if t224 = true then ((racewaylaw8_made.f k a0 a1 l2).bind fun bt225 => ((racewaylaw8_routed.f k bt225.1 bt225.2.1 bt225.2.2.1 bt225.2.2.2 l3).bind fun t232 => ((racewaylaw8_pick.f a4 10).bind fun t235 => ((plain_Block.f k bt225.1 bt225.2.1 bt225.2.2.1 bt225.2.2.2 t232 (wrap64 (1 + t235))).bind fun bt236 => (if bt236.2.2 = 0 then ((residual_Room.f k bt225.1 bt225.2.1 bt225.2.2.1 bt225.2.2.2 t232).bind fun bt243 => (racewaylaw8_PlainFills.l0 k (wrap64 (1 + t235)) bt236.2.1 bt243.1 0)) else (some false)))))) else (some false))
theorem racewaylaw8_PlainFills.mono_l : ∀ k, (∀ y0 y1 y2 y3, LeO (racewaylaw8_PlainFills.l0 k y0 y1 y2 y3) (racewaylaw8_PlainFills.l0 (k + 1) y0 y1 y2 y3)) ∧ (∀ y0 y1 y2 y3 y4 y5 y6, LeO (racewaylaw8_PlainFills.l1 k y0 y1 y2 y3 y4 y5 y6) (racewaylaw8_PlainFills.l1 (k + 1) y0 y1 y2 y3 y4 y5 y6)) ∧ (∀ y0 y1 y2 y3 y4 y5, LeO (racewaylaw8_PlainFills.j2 k y0 y1 y2 y3 y4 y5) (racewaylaw8_PlainFills.j2 (k + 1) y0 y1 y2 y3 y4 y5)) ∧ (∀ y0 y1 y2 y3 y4 y5 y6, LeO (racewaylaw8_PlainFills.l2 k y0 y1 y2 y3 y4 y5 y6) (racewaylaw8_PlainFills.l2 (k + 1) y0 y1 y2 y3 y4 y5 y6)) ∧ (∀ y0 y1 y2 y3 y4 y5 y6 y7, LeO (racewaylaw8_PlainFills.j4 k y0 y1 y2 y3 y4 y5 y6 y7) (racewaylaw8_PlainFills.j4 (k + 1) y0 y1 y2 y3 y4 y5 y6 y7))
 | 0 => ⟨fun _ _ _ _ r h => by simp [racewaylaw8_PlainFills.l0] at h, fun _ _ _ _ _ _ _ r h => by simp [racewaylaw8_PlainFills.l1] at h, fun _ _ _ _ _ _ r h => by simp [racewaylaw8_PlainFills.j2] at h, fun _ _ _ _ _ _ _ r h => by simp [racewaylaw8_PlainFills.l2] at h, fun _ _ _ _ _ _ _ _ r h => by simp [racewaylaw8_PlainFills.j4] at h⟩
 | k + 1 => by
  obtain ⟨ih0, ih1, ih2, ih3, ih4⟩ := racewaylaw8_PlainFills.mono_l k
  refine ⟨?_, ?_, ?_, ?_, ?_⟩
  ·intro y0 y1 y2 y3
   unfold racewaylaw8_PlainFills.l0
   repeat' first
   | (with_reducible exact ih0 _ _ _ _)
   | (with_reducible exact ih1 _ _ _ _ _ _ _)
   | (with_reducible exact ih2 _ _ _ _ _ _)
   | (with_reducible exact ih3 _ _ _ _ _ _ _)
   | (with_reducible exact ih4 _ _ _ _ _ _ _ _)
   | (with_reducible exact plain_Block.mono _ _ _ _ _ _ _)
   | (with_reducible exact racewaylaw8_made.mono _ _ _ _)
   | (with_reducible exact racewaylaw8_routed.mono _ _ _ _ _ _)
   | (with_reducible exact racewaylaw8_shown.mono _)
   | (with_reducible exact residual_Room.mono _ _ _ _ _ _)
   | (with_reducible exact LeO.refl _)
   | (with_reducible exact LeO.none _)
   | (with_reducible refine LeO.ite ?_ ?_)
   | (with_reducible refine LeO.bind ?_ (fun _ => ?_))
   | exact ih0 _ _ _ _
   | exact ih1 _ _ _ _ _ _ _
   | exact ih2 _ _ _ _ _ _
   | exact ih3 _ _ _ _ _ _ _
   | exact ih4 _ _ _ _ _ _ _ _
   | exact plain_Block.mono _ _ _ _ _ _ _
   | exact racewaylaw8_made.mono _ _ _ _
   | exact racewaylaw8_routed.mono _ _ _ _ _ _
   | exact racewaylaw8_shown.mono _
   | exact residual_Room.mono _ _ _ _ _ _
   | exact LeO.none _
   | refine LeO.ite ?_ ?_
   | refine LeO.bind ?_ (fun _ => ?_)
  ·intro y0 y1 y2 y3 y4 y5 y6
   unfold racewaylaw8_PlainFills.l1
   repeat' first
   | (with_reducible exact ih0 _ _ _ _)
   | (with_reducible exact ih1 _ _ _ _ _ _ _)
   | (with_reducible exact ih2 _ _ _ _ _ _)
   | (with_reducible exact ih3 _ _ _ _ _ _ _)
   | (with_reducible exact ih4 _ _ _ _ _ _ _ _)
   | (with_reducible exact plain_Block.mono _ _ _ _ _ _ _)
   | (with_reducible exact racewaylaw8_made.mono _ _ _ _)
   | (with_reducible exact racewaylaw8_routed.mono _ _ _ _ _ _)
   | (with_reducible exact racewaylaw8_shown.mono _)
   | (with_reducible exact residual_Room.mono _ _ _ _ _ _)
   | (with_reducible exact LeO.refl _)
   | (with_reducible exact LeO.none _)
   | (with_reducible refine LeO.ite ?_ ?_)
   | (with_reducible refine LeO.bind ?_ (fun _ => ?_))
   | exact ih0 _ _ _ _
   | exact ih1 _ _ _ _ _ _ _
   | exact ih2 _ _ _ _ _ _
   | exact ih3 _ _ _ _ _ _ _
   | exact ih4 _ _ _ _ _ _ _ _
   | exact plain_Block.mono _ _ _ _ _ _ _
   | exact racewaylaw8_made.mono _ _ _ _
   | exact racewaylaw8_routed.mono _ _ _ _ _ _
   | exact racewaylaw8_shown.mono _
   | exact residual_Room.mono _ _ _ _ _ _
   | exact LeO.none _
   | refine LeO.ite ?_ ?_
   | refine LeO.bind ?_ (fun _ => ?_)
  ·intro y0 y1 y2 y3 y4 y5
   unfold racewaylaw8_PlainFills.j2
   repeat' first
   | (with_reducible exact ih0 _ _ _ _)
   | (with_reducible exact ih1 _ _ _ _ _ _ _)
   | (with_reducible exact ih2 _ _ _ _ _ _)
   | (with_reducible exact ih3 _ _ _ _ _ _ _)
   | (with_reducible exact ih4 _ _ _ _ _ _ _ _)
   | (with_reducible exact plain_Block.mono _ _ _ _ _ _ _)
   | (with_reducible exact racewaylaw8_made.mono _ _ _ _)
   | (with_reducible exact racewaylaw8_routed.mono _ _ _ _ _ _)
   | (with_reducible exact racewaylaw8_shown.mono _)
   | (with_reducible exact residual_Room.mono _ _ _ _ _ _)
   | (with_reducible exact LeO.refl _)
   | (with_reducible exact LeO.none _)
   | (with_reducible refine LeO.ite ?_ ?_)
   | (with_reducible refine LeO.bind ?_ (fun _ => ?_))
   | exact ih0 _ _ _ _
   | exact ih1 _ _ _ _ _ _ _
   | exact ih2 _ _ _ _ _ _
   | exact ih3 _ _ _ _ _ _ _
   | exact ih4 _ _ _ _ _ _ _ _
   | exact plain_Block.mono _ _ _ _ _ _ _
   | exact racewaylaw8_made.mono _ _ _ _
   | exact racewaylaw8_routed.mono _ _ _ _ _ _
   | exact racewaylaw8_shown.mono _
   | exact residual_Room.mono _ _ _ _ _ _
   | exact LeO.none _
   | refine LeO.ite ?_ ?_
   | refine LeO.bind ?_ (fun _ => ?_)
  ·intro y0 y1 y2 y3 y4 y5 y6
   unfold racewaylaw8_PlainFills.l2
   repeat' first
   | (with_reducible exact ih0 _ _ _ _)
   | (with_reducible exact ih1 _ _ _ _ _ _ _)
   | (with_reducible exact ih2 _ _ _ _ _ _)
   | (with_reducible exact ih3 _ _ _ _ _ _ _)
   | (with_reducible exact ih4 _ _ _ _ _ _ _ _)
   | (with_reducible exact plain_Block.mono _ _ _ _ _ _ _)
   | (with_reducible exact racewaylaw8_made.mono _ _ _ _)
   | (with_reducible exact racewaylaw8_routed.mono _ _ _ _ _ _)
   | (with_reducible exact racewaylaw8_shown.mono _)
   | (with_reducible exact residual_Room.mono _ _ _ _ _ _)
   | (with_reducible exact LeO.refl _)
   | (with_reducible exact LeO.none _)
   | (with_reducible refine LeO.ite ?_ ?_)
   | (with_reducible refine LeO.bind ?_ (fun _ => ?_))
   | exact ih0 _ _ _ _
   | exact ih1 _ _ _ _ _ _ _
   | exact ih2 _ _ _ _ _ _
   | exact ih3 _ _ _ _ _ _ _
   | exact ih4 _ _ _ _ _ _ _ _
   | exact plain_Block.mono _ _ _ _ _ _ _
   | exact racewaylaw8_made.mono _ _ _ _
   | exact racewaylaw8_routed.mono _ _ _ _ _ _
   | exact racewaylaw8_shown.mono _
   | exact residual_Room.mono _ _ _ _ _ _
   | exact LeO.none _
   | refine LeO.ite ?_ ?_
   | refine LeO.bind ?_ (fun _ => ?_)
  ·intro y0 y1 y2 y3 y4 y5 y6 y7
   unfold racewaylaw8_PlainFills.j4
   repeat' first
   | (with_reducible exact ih0 _ _ _ _)
   | (with_reducible exact ih1 _ _ _ _ _ _ _)
   | (with_reducible exact ih2 _ _ _ _ _ _)
   | (with_reducible exact ih3 _ _ _ _ _ _ _)
   | (with_reducible exact ih4 _ _ _ _ _ _ _ _)
   | (with_reducible exact plain_Block.mono _ _ _ _ _ _ _)
   | (with_reducible exact racewaylaw8_made.mono _ _ _ _)
   | (with_reducible exact racewaylaw8_routed.mono _ _ _ _ _ _)
   | (with_reducible exact racewaylaw8_shown.mono _)
   | (with_reducible exact residual_Room.mono _ _ _ _ _ _)
   | (with_reducible exact LeO.refl _)
   | (with_reducible exact LeO.none _)
   | (with_reducible refine LeO.ite ?_ ?_)
   | (with_reducible refine LeO.bind ?_ (fun _ => ?_))
   | exact ih0 _ _ _ _
   | exact ih1 _ _ _ _ _ _ _
   | exact ih2 _ _ _ _ _ _
   | exact ih3 _ _ _ _ _ _ _
   | exact ih4 _ _ _ _ _ _ _ _
   | exact plain_Block.mono _ _ _ _ _ _ _
   | exact racewaylaw8_made.mono _ _ _ _
   | exact racewaylaw8_routed.mono _ _ _ _ _ _
   | exact racewaylaw8_shown.mono _
   | exact residual_Room.mono _ _ _ _ _ _
   | exact LeO.none _
   | refine LeO.ite ?_ ?_
   | refine LeO.bind ?_ (fun _ => ?_)
theorem racewaylaw8_PlainFills.mono : ∀ a0 a1 a2 a3 a4 k, LeO (racewaylaw8_PlainFills.f k a0 a1 a2 a3 a4) (racewaylaw8_PlainFills.f (k + 1) a0 a1 a2 a3 a4) := by
 intro a0 a1 a2 a3 a4 k
 obtain ⟨ih0, ih1, ih2, ih3, ih4⟩ := racewaylaw8_PlainFills.mono_l k
 unfold racewaylaw8_PlainFills.f
 repeat' first
   | (with_reducible exact ih0 _ _ _ _)
   | (with_reducible exact ih1 _ _ _ _ _ _ _)
   | (with_reducible exact ih2 _ _ _ _ _ _)
   | (with_reducible exact ih3 _ _ _ _ _ _ _)
   | (with_reducible exact ih4 _ _ _ _ _ _ _ _)
   | (with_reducible exact plain_Block.mono _ _ _ _ _ _ _)
   | (with_reducible exact racewaylaw8_made.mono _ _ _ _)
   | (with_reducible exact racewaylaw8_routed.mono _ _ _ _ _ _)
   | (with_reducible exact racewaylaw8_shown.mono _)
   | (with_reducible exact residual_Room.mono _ _ _ _ _ _)
   | (with_reducible exact LeO.refl _)
   | (with_reducible exact LeO.none _)
   | (with_reducible refine LeO.ite ?_ ?_)
   | (with_reducible refine LeO.bind ?_ (fun _ => ?_))
   | exact ih0 _ _ _ _
   | exact ih1 _ _ _ _ _ _ _
   | exact ih2 _ _ _ _ _ _
   | exact ih3 _ _ _ _ _ _ _
   | exact ih4 _ _ _ _ _ _ _ _
   | exact plain_Block.mono _ _ _ _ _ _ _
   | exact racewaylaw8_made.mono _ _ _ _
   | exact racewaylaw8_routed.mono _ _ _ _ _ _
   | exact racewaylaw8_shown.mono _
   | exact residual_Room.mono _ _ _ _ _ _
   | exact LeO.none _
   | refine LeO.ite ?_ ?_
   | refine LeO.bind ?_ (fun _ => ?_)
def racewaylaw8_PlainFills.T19 : Bool × List (List Nat × List Nat) := (true, [([], []), ([], []), ([], []), ([1, 2], [1, 2]), ([3], [3]), ([], []), ([], []), ([], []), ([6, 7], [6, 7]), ([8], [8]), ([5, 9], [5, 9]), ([10], [10]), ([], []), ([], []), ([12, 13], [12, 13]), ([14], [14]), ([15], [15]), ([11, 16], [11, 16]), ([0, 4, 0, 1, 2, 3, 4, 5, 6, 7, 8, 9, 10, 11, 12, 13, 14, 15, 16, 17], [0, 4]), ([18, 17, 0, 1, 2, 3, 4, 5, 6, 7, 8, 9, 10, 11, 12, 13, 14, 15, 16, 17], [17, 18])])
def racewaylaw8_PlainFills.B19 : List Nat := [0, 0, 0, 6, 14, 0, 0, 0, 192, 448, 992, 2016, 0, 0, 12288, 28672, 61440, 131040, 262143, 524287]
theorem racewaylaw8_PlainFills.tab19 : rtab .any (opsOf Try.f8 19) = racewaylaw8_PlainFills.T19 := by kernel_rfl
theorem racewaylaw8_PlainFills.bits19 : waitsOk racewaylaw8_PlainFills.T19.2 racewaylaw8_PlainFills.B19 = true := by kernel_rfl
set_option maxHeartbeats 8000000 in
set_option maxRecDepth 100000 in
theorem racewaylaw8_PlainFills.calls (k : Nat) (a0 : Int) (a1 : Int) (A2 : Option Addr) (c2 : Nat) (l2 : List (S91)) (A3 : Option Addr) (c3 : Nat) (l3 : List Int) (a4 : Int) (r : Bool) (w : World) (hr2 : Kd.C k91 w A2 l2.length l2) (hc2 : l2.length ≤ c2) (hr3 : Kd.C (Kd.int .i64) w A3 l3.length l3) (hc3 : l3.length ≤ c3) (h : racewaylaw8_PlainFills.f k a0 a1 l2 l3 a4 = some r) (hrT_ : Aside0 (r = true)) :
  Calls Try.prog 8 #[.int .i64 a0, .int .i64 a1, .slice A2 l2.length c2, .slice A3 l3.length c3, .int .i64 a4] w fun e w' => e = .returned (.bool r) ∧ Below w.heap.size w w' := by
 have hu26 := Try.underlying26
 have HR2 := Aside0.mk hr2
 have HC2 := Aside0.mk hc2
 clear hr2 hc2
 have HR3 := Aside0.mk hr3
 have HC3 := Aside0.mk hc3
 clear hr3 hc3
 have HB := Aside0.mk (Below.refl w.heap.size w)
 have H : ((racewaylaw8_shown.f k).bind fun t224 => (if t224 = true then ((racewaylaw8_made.f k a0 a1 l2).bind fun bt225 => ((racewaylaw8_routed.f k bt225.1 bt225.2.1 bt225.2.2.1 bt225.2.2.2 l3).bind fun t232 => ((racewaylaw8_pick.f a4 10).bind fun t235 => ((plain_Block.f k bt225.1 bt225.2.1 bt225.2.2.1 bt225.2.2.2 t232 (wrap64 (1 + t235))).bind fun bt236 => (if bt236.2.2 = 0 then ((residual_Room.f k bt225.1 bt225.2.1 bt225.2.2.1 bt225.2.2.2 t232).bind fun bt243 => (racewaylaw8_PlainFills.l0 k (wrap64 (1 + t235)) bt236.2.1 bt243.1 0)) else (some false)))))) else (some false))) = some r := h
 clear h
 replace H := Option.bind_eq_some_iff.mp H
 obtain ⟨t224, A60, H⟩ := H
 replace H : (if t224 = true then ((racewaylaw8_made.f k a0 a1 l2).bind fun bt225 => ((racewaylaw8_routed.f k bt225.1 bt225.2.1 bt225.2.2.1 bt225.2.2.2 l3).bind fun t232 => ((racewaylaw8_pick.f a4 10).bind fun t235 => ((plain_Block.f k bt225.1 bt225.2.1 bt225.2.2.1 bt225.2.2.2 t232 (wrap64 (1 + t235))).bind fun bt236 => (if bt236.2.2 = 0 then ((residual_Room.f k bt225.1 bt225.2.1 bt225.2.2.1 bt225.2.2.2 t232).bind fun bt243 => (racewaylaw8_PlainFills.l0 k (wrap64 (1 + t235)) bt236.2.1 bt243.1 0)) else (some false)))))) else (some false)) = some r := H
 have A6 := Aside0.mk A60
 clear A60
 by_cases c7 : t224 = true
 ·subst c7
  have H1 : ((racewaylaw8_made.f k a0 a1 l2).bind fun bt225 => ((racewaylaw8_routed.f k bt225.1 bt225.2.1 bt225.2.2.1 bt225.2.2.2 l3).bind fun t232 => ((racewaylaw8_pick.f a4 10).bind fun t235 => ((plain_Block.f k bt225.1 bt225.2.1 bt225.2.2.1 bt225.2.2.2 t232 (wrap64 (1 + t235))).bind fun bt236 => (if bt236.2.2 = 0 then ((residual_Room.f k bt225.1 bt225.2.1 bt225.2.2.1 bt225.2.2.2 t232).bind fun bt243 => (racewaylaw8_PlainFills.l0 k (wrap64 (1 + t235)) bt236.2.1 bt243.1 0)) else (some false)))))) = some r := by rw [if_pos rfl] at H; exact H
  clear H
  have H := H1
  clear H1
  replace H := Option.bind_eq_some_iff.mp H
  obtain ⟨⟨t225, t226, t227, t228⟩, A80, H⟩ := H
  replace H : ((racewaylaw8_routed.f k t225 t226 t227 t228 l3).bind fun t232 => ((racewaylaw8_pick.f a4 10).bind fun t235 => ((plain_Block.f k t225 t226 t227 t228 t232 (wrap64 (1 + t235))).bind fun bt236 => (if bt236.2.2 = 0 then ((residual_Room.f k t225 t226 t227 t228 t232).bind fun bt243 => (racewaylaw8_PlainFills.l0 k (wrap64 (1 + t235)) bt236.2.1 bt243.1 0)) else (some false))))) = some r := H
  have A8 := Aside0.mk A80
  clear A80
  replace H := Option.bind_eq_some_iff.mp H
  obtain ⟨t232, A90, H⟩ := H
  replace H : ((racewaylaw8_pick.f a4 10).bind fun t235 => ((plain_Block.f k t225 t226 t227 t228 t232 (wrap64 (1 + t235))).bind fun bt236 => (if bt236.2.2 = 0 then ((residual_Room.f k t225 t226 t227 t228 t232).bind fun bt243 => (racewaylaw8_PlainFills.l0 k (wrap64 (1 + t235)) bt236.2.1 bt243.1 0)) else (some false)))) = some r := H
  have A9 := Aside0.mk A90
  clear A90
  replace H := Option.bind_eq_some_iff.mp H
  obtain ⟨t235, A100, H⟩ := H
  replace H : ((plain_Block.f k t225 t226 t227 t228 t232 (wrap64 (1 + t235))).bind fun bt236 => (if bt236.2.2 = 0 then ((residual_Room.f k t225 t226 t227 t228 t232).bind fun bt243 => (racewaylaw8_PlainFills.l0 k (wrap64 (1 + t235)) bt236.2.1 bt243.1 0)) else (some false))) = some r := H
  have A10 := Aside0.mk A100
  clear A100
  replace H := Option.bind_eq_some_iff.mp H
  obtain ⟨⟨t236, t239, t242⟩, A110, H⟩ := H
  replace H : (if t242 = 0 then ((residual_Room.f k t225 t226 t227 t228 t232).bind fun bt243 => (racewaylaw8_PlainFills.l0 k (wrap64 (1 + t235)) t239 bt243.1 0)) else (some false)) = some r := H
  have A11 := Aside0.mk A110
  clear A110
  by_cases c12 : t242 = 0
  ·rw [if_pos c12] at H
   (have c12b0 : (t242 == 0) = true := beq_iff_eq.mpr c12);(have c12b1 : (t242 != 0) = false := bne_eq_false_iff_eq.mpr c12);(clear c12);(replace H := Option.bind_eq_some_iff.mp H);(obtain ⟨⟨t243, t246⟩, A130, H⟩ := H);(replace H : (racewaylaw8_PlainFills.l0 k (wrap64 (1 + t235)) t239 t243 0) = some r := H);(have A13 := Aside0.mk A130);(clear A130);(have H' := Aside0.mk H);(clear H)
   go_enter Try.func8, Try.ntmps8
   go_wp2_with (first | ((with_reducible refine gate_callee (f := 24) rfl ?_); refine goesL_ (some 27) rfl rfl Try.func24 (by kernel_rfl) rfl #[] rfl (by (try simp only [List.map_toArray, List.map_cons, List.map_nil]); first | done | rfl | (simp only [List.length_drop, List.length_take]; rfl)) ?_; (with_reducible refine (racewaylaw8_shown.calls k  true _ A6.out).mono ?_); rintro e w14 ⟨rfl, hb⟩; refine ⟨_, rfl, ?_⟩; have n0_ := Aside0.mk (below_step (by repeat (first | (with_reducible first | exact HB.out | apply below_alloc | apply pw_below_drewN | apply below_drew1) | exact HB.out)) hb); clear HB; have HB := n0_; clear n0_; (try clear hb); (try clear hb2); (try clear hk); (try clear hi)) | ((with_reducible refine gate_callee (f := 25) rfl ?_); refine goesL_ (some 33) rfl rfl Try.func25 (by kernel_rfl) rfl #[.int .i64 a0, .int .i64 a1, .slice A2 l2.length c2] rfl (by (try simp only [List.map_toArray, List.map_cons, List.map_nil]); first | done | rfl | (simp only [List.length_drop, List.length_take]; rfl)) ?_; (with_reducible refine (racewaylaw8_made.calls k a0 a1 _ _ l2 t225 t226 t227 t228 _ ?side1 ?side2 A8.out).mono ?_); (case side1 => repeat (first | exact (Kd.C_below HR2.out HB.out) | (with_reducible refine Kd.C_alloc ?_ _) | (with_reducible refine Kd.C_drewN ?_ _) | (with_reducible refine Kd.C_drew ?_))); (case side2 => exact HC2.out); rintro e w15 ⟨v229, rfl, ho0, hb⟩; refine ⟨_, rfl, ?_⟩; have n0_ := Aside0.mk (Kd.R_lower ho0 (below_size (by repeat (first | (with_reducible first | exact HB.out | apply below_alloc | apply pw_below_drewN | apply below_drew1) | exact HB.out)))); have n1_ := Aside0.mk (below_step (by repeat (first | (with_reducible first | exact HB.out | apply below_alloc | apply pw_below_drewN | apply below_drew1) | exact HB.out)) hb); clear HB; have HO230 := n0_; have HB := n1_; clear n0_ n1_; (try clear hb); (try clear hb2); (try clear hk); (try clear hi); (try clear ho0)) | ((with_reducible refine gate_dst (N := 12) rfl ?_); (try (refine gate_guard (by rfl) ?_; dsimp only)); refine box_event ?hg (N := 12) ?hd (cs := #[.int .i64 0, .int .i64 0, .int .i64 0, .slice none 0 0]) (t := 26) ?hr ?_; (case hd => rfl); (case hg => rfl); (case hr => first | (go_simp; done) | (go_simp; rfl)); intro gb231 hg w16 hbox hb; have n0_ := Aside0.mk (Kd.R_below (by (with_reducible repeat first | apply Kd.R_alloc | apply Kd.R_drewN | apply Kd.R_drew); exact HO230.out) hb); have n1_ := Aside0.mk (below_step (by repeat (first | (with_reducible first | exact HB.out | apply below_alloc | apply pw_below_drewN | apply below_drew1) | exact HB.out)) hb); have n2_ := Aside0.mk (hbox); have n3_ := Aside0.mk ((by rw [hg]; exact (below_size (by repeat (first | (with_reducible first | exact HB.out | apply below_alloc | apply pw_below_drewN | apply below_drew1) | exact HB.out))) : w.heap.size ≤ gb231)); have n4_ := Aside0.mk ((by rw [hg]; exact (below_size (by repeat (first | (with_reducible first | exact HB.out | apply below_alloc | apply pw_below_drewN | apply below_drew1) | exact HB.out))) : w.heap.size ≤ gb231)); clear HO230; clear HB; have HO230 := n0_; have HB := n1_; have BK231 := n2_; have GW231 := n3_; have GE231 := n4_; clear n0_ n1_ n2_ n3_ n4_; clear hb hbox hg; have hcz17_0 : w16.cell? ⟨gb231, 0, none⟩ = some (.int .i64 0) := (blk_cell BK231.out 0).trans rfl; have hcz17_1 : w16.cell? ⟨gb231, 1, none⟩ = some (.int .i64 0) := (blk_cell BK231.out 1).trans rfl; have hcz17_2 : w16.cell? ⟨gb231, 2, none⟩ = some (.int .i64 0) := (blk_cell BK231.out 2).trans rfl; have hcz17_3 : w16.cell? ⟨gb231, 3, none⟩ = some (.slice none 0 0) := (blk_cell BK231.out 3).trans rfl; have hfz17_0 := blk_frozen BK231.out 0; have hfz17_1 := blk_frozen BK231.out 1; have hfz17_2 := blk_frozen BK231.out 2; have hfz17_3 := blk_frozen BK231.out 3; obtain ⟨Ao18, co18, eo18⟩ := Kd.R_slice HO230.out; subst eo18) | ((with_reducible refine gate_callee (f := 26) rfl ?_); refine goesL_ (some 36) rfl rfl Try.func26 (by kernel_rfl) rfl #[.agg #[.int .i64 t225, .int .i64 t226, .int .i64 t227, .slice Ao18 t228.length co18], .slice A3 l3.length c3] rfl (by (try simp only [List.map_toArray, List.map_cons, List.map_nil]); first | done | rfl | (simp only [List.length_drop, List.length_take]; rfl)) ?_; (with_reducible refine (racewaylaw8_routed.calls k t225 t226 t227 _ _ t228 _ _ l3 t232 _ ?side1 ?side2 ?side3 ?side4 A9.out).mono ?_); (case side1 => refine (Kd.R_reads' (e := 30) (base := w.heap.size) (ok := fun k_ => True) (n := t228.length) (c := co18) ?_).2.2; exact (by (with_reducible repeat first | apply Kd.R_alloc | apply Kd.R_drewN | apply Kd.R_drew); exact (Kd.R_mono (Kd.R_far (p := ⟨gb231, 3, none⟩) (Kd.R_far (p := ⟨gb231, 2, none⟩) (Kd.R_far (p := ⟨gb231, 1, none⟩) (Kd.R_far (p := ⟨gb231, 0, none⟩) (Kd.R_types HO230.out BK231.out (by decide)) (fun _ hk => hk.2) (.int .i64 t225)) (fun _ hk => hk.2) (.int .i64 t226)) (fun _ hk => hk.2) (.int .i64 t227)) (fun _ hk => hk.2) (.slice Ao18 t228.length co18)) (fun _ h_ => h_.1)))); (case side2 => exact (Kd.R_reads' HO230.out).2.1); (case side3 => exact Kd.C_below HR3.out (by repeat (first | (with_reducible first | exact HB.out | apply below_alloc | apply pw_below_drewN | apply below_drew1 | refine below_set ?_ GE231.out) | exact HB.out))); (case side4 => exact HC3.out); rintro e w19 ⟨v233, rfl, ho0, hb⟩; refine ⟨_, rfl, ?_⟩; have n0_ := Aside0.mk (Kd.R_below (by (with_reducible repeat first | apply Kd.R_alloc | apply Kd.R_drewN | apply Kd.R_drew); exact (Kd.R_mono (Kd.R_far (p := ⟨gb231, 3, none⟩) (Kd.R_far (p := ⟨gb231, 2, none⟩) (Kd.R_far (p := ⟨gb231, 1, none⟩) (Kd.R_far (p := ⟨gb231, 0, none⟩) (Kd.R_types HO230.out BK231.out (by decide)) (fun _ hk => hk.2) (.int .i64 t225)) (fun _ hk => hk.2) (.int .i64 t226)) (fun _ hk => hk.2) (.int .i64 t227)) (fun _ hk => hk.2) (.slice Ao18 t228.length co18)) (fun _ h_ => h_.1))) hb); have n1_ := Aside0.mk (Kd.R_lower ho0 (below_size (by repeat (first | (with_reducible first | exact HB.out | apply below_alloc | apply pw_below_drewN | apply below_drew1 | refine below_set ?_ GE231.out) | exact HB.out)))); have n2_ := Aside0.mk (blk_below (g := gb231) (o := .cells #[.int .i64 t225, .int .i64 t226, .int .i64 t227, .slice Ao18 t228.length co18] 26 (0, 0)) (by (with_reducible repeat first | refine blk_drewN ?_ _ | refine blk_drew ?_ | refine blk_alloc ?_ _); refine blk_put (cs := #[.int .i64 t225, .int .i64 t226, .int .i64 t227, .slice none 0 0]) ?_ 3 _ rfl; (with_reducible repeat first | refine blk_drewN ?_ _ | refine blk_drew ?_ | refine blk_alloc ?_ _); refine blk_put (cs := #[.int .i64 t225, .int .i64 t226, .int .i64 0, .slice none 0 0]) ?_ 2 _ rfl; (with_reducible repeat first | refine blk_drewN ?_ _ | refine blk_drew ?_ | refine blk_alloc ?_ _); refine blk_put (cs := #[.int .i64 t225, .int .i64 0, .int .i64 0, .slice none 0 0]) ?_ 1 _ rfl; (with_reducible repeat first | refine blk_drewN ?_ _ | refine blk_drew ?_ | refine blk_alloc ?_ _); refine blk_put (cs := #[.int .i64 0, .int .i64 0, .int .i64 0, .slice none 0 0]) ?_ 0 _ rfl; (with_reducible repeat first | refine blk_drewN ?_ _ | refine blk_drew ?_ | refine blk_alloc ?_ _); exact BK231.out) hb); have n3_ := Aside0.mk (below_step (by repeat (first | (with_reducible first | exact HB.out | apply below_alloc | apply pw_below_drewN | apply below_drew1 | refine below_set ?_ GE231.out) | exact HB.out)) hb); clear HO230; clear BK231; clear HB; have HO230 := n0_; have HO234 := n1_; have BK231 := n2_; have HB := n3_; clear n0_ n1_ n2_ n3_; (try clear hb); (try clear hb2); (try clear hk); (try clear hi); (try clear ho0)) | ((with_reducible refine gate_callee (f := 27) rfl ?_); refine goesL_ (some 38) rfl rfl Try.func27 (by kernel_rfl) rfl #[.int .i64 a4, .int .i64 10] rfl (by (try simp only [List.map_toArray, List.map_cons, List.map_nil]); first | done | rfl | (simp only [List.length_drop, List.length_take]; rfl)) ?_; (with_reducible refine (racewaylaw8_pick.calls a4 10 t235 _ A10.out).mono ?_); rintro e w' ⟨rfl, ⟨nd, rfl⟩⟩; refine ⟨_, rfl, ?_⟩; have hcz20_0 : w19.cell? ⟨gb231, 0, none⟩ = some (.int .i64 t225) := (blk_cell BK231.out 0).trans rfl; have hcz20_1 : w19.cell? ⟨gb231, 1, none⟩ = some (.int .i64 t226) := (blk_cell BK231.out 1).trans rfl; have hcz20_2 : w19.cell? ⟨gb231, 2, none⟩ = some (.int .i64 t227) := (blk_cell BK231.out 2).trans rfl; have hcz20_3 : w19.cell? ⟨gb231, 3, none⟩ = some (.slice Ao18 t228.length co18) := (blk_cell BK231.out 3).trans rfl; have hfz20_0 := blk_frozen BK231.out 0; have hfz20_1 := blk_frozen BK231.out 1; have hfz20_2 := blk_frozen BK231.out 2; have hfz20_3 := blk_frozen BK231.out 3; obtain ⟨Ao21, co21, eo21⟩ := Kd.R_slice HO234.out; subst eo21) | ((with_reducible refine gate_callee (f := 28) rfl ?_); refine goesL_ (some 44) rfl rfl Try.func28 (by kernel_rfl) rfl #[.agg #[.int .i64 t225, .int .i64 t226, .int .i64 t227, .slice Ao18 t228.length co18], .slice Ao21 t232.length co21, .int .i64 (wrap64 (1 + t235))] rfl (by (try simp only [List.map_toArray, List.map_cons, List.map_nil]); first | done | rfl | (simp only [List.length_drop, List.length_take]; rfl)) ?_; (with_reducible refine (plain_Block.calls k t225 t226 t227 _ _ t228 _ _ t232 (wrap64 (1 + t235)) t236 t239 t242 _ ?side1 ?side2 ?side3 ?side4 A11.out).mono ?_); (case side1 => repeat (first | exact (Kd.R_reads' HO230.out).2.2 | (with_reducible refine Kd.C_alloc ?_ _) | (with_reducible refine Kd.C_drewN ?_ _) | (with_reducible refine Kd.C_drew ?_))); (case side2 => exact (Kd.R_reads' HO230.out).2.1); (case side3 => repeat (first | exact (Kd.R_reads' HO234.out).2.2 | (with_reducible refine Kd.C_alloc ?_ _) | (with_reducible refine Kd.C_drewN ?_ _) | (with_reducible refine Kd.C_drew ?_))); (case side4 => exact (Kd.R_reads' HO234.out).2.1); rintro e w22 ⟨v237, v240, rfl, ho0, ho1, hb⟩; refine ⟨_, rfl, ?_⟩; have n0_ := Aside0.mk (Kd.R_below (by (with_reducible repeat first | apply Kd.R_alloc | apply Kd.R_drewN | apply Kd.R_drew); exact HO230.out) hb); have n1_ := Aside0.mk (Kd.R_elder' (by (with_reducible repeat first | apply Kd.R_alloc | apply Kd.R_drewN | apply Kd.R_drew); exact HO234.out) (Kd.R_base ho0) hb); have n2_ := Aside0.mk (Kd.R_lower (Kd.R_new' (Kd.R_mono (ok' := fun k_ => True) ho0 (fun _ hk_ => trivial)) (Kd.R_lt (by (with_reducible repeat first | apply Kd.R_alloc | apply Kd.R_drewN | apply Kd.R_drew); exact HO234.out))) (below_size (by repeat (first | (with_reducible first | exact HB.out | apply below_alloc | apply pw_below_drewN | apply below_drew1 | refine below_set ?_ GE231.out) | exact HB.out)))); have n3_ := Aside0.mk (Kd.V_lower (Kd.V_mono (ok' := fun k_ => some k_ ≠ (v237 : Value).ownBlock ∧ some k_ ≠ (.slice Ao18 t228.length co18 : Value).ownBlock ∧ some k_ ≠ (.slice Ao21 t232.length co21 : Value).ownBlock ∧ k_ ≠ gb231) ho1 (fun k_ hk_ => ⟨hk_.2, (Kd.fresh' (Kd.R_lt (by (with_reducible repeat first | apply Kd.R_alloc | apply Kd.R_drewN | apply Kd.R_drew); exact HO230.out)) k_ hk_.1), (Kd.fresh' (Kd.R_lt (by (with_reducible repeat first | apply Kd.R_alloc | apply Kd.R_drewN | apply Kd.R_drew); exact HO234.out)) k_ hk_.1), (Kd.freshB (g := gb231) (o := .cells #[.int .i64 t225, .int .i64 t226, .int .i64 t227, .slice Ao18 t228.length co18] 26 (0, 0)) (by (with_reducible repeat first | refine blk_drewN ?_ _ | refine blk_drew ?_ | refine blk_alloc ?_ _); exact BK231.out) k_ hk_.1)⟩)) (below_size (by repeat (first | (with_reducible first | exact HB.out | apply below_alloc | apply pw_below_drewN | apply below_drew1 | refine below_set ?_ GE231.out) | exact HB.out)))); have n4_ := Aside0.mk (blk_below (g := gb231) (o := .cells #[.int .i64 t225, .int .i64 t226, .int .i64 t227, .slice Ao18 t228.length co18] 26 (0, 0)) (by (with_reducible repeat first | refine blk_drewN ?_ _ | refine blk_drew ?_ | refine blk_alloc ?_ _); exact BK231.out) hb); have n5_ := Aside0.mk (below_step (by repeat (first | (with_reducible first | exact HB.out | apply below_alloc | apply pw_below_drewN | apply below_drew1 | refine below_set ?_ GE231.out) | exact HB.out)) hb); clear HO230; clear HO234; clear BK231; clear HB; have HO230 := n0_; have HO234 := n1_; have HO238 := n2_; have HO241 := n3_; have BK231 := n4_; have HB := n5_; clear n0_ n1_ n2_ n3_ n4_ n5_; (try clear hb); (try clear hb2); (try clear hk); (try clear hi); (try clear ho0); (try clear ho1); have hcz23_0 : w22.cell? ⟨gb231, 0, none⟩ = some (.int .i64 t225) := (blk_cell BK231.out 0).trans rfl; have hcz23_1 : w22.cell? ⟨gb231, 1, none⟩ = some (.int .i64 t226) := (blk_cell BK231.out 1).trans rfl; have hcz23_2 : w22.cell? ⟨gb231, 2, none⟩ = some (.int .i64 t227) := (blk_cell BK231.out 2).trans rfl; have hcz23_3 : w22.cell? ⟨gb231, 3, none⟩ = some (.slice Ao18 t228.length co18) := (blk_cell BK231.out 3).trans rfl; have hfz23_0 := blk_frozen BK231.out 0; have hfz23_1 := blk_frozen BK231.out 1; have hfz23_2 := blk_frozen BK231.out 2; have hfz23_3 := blk_frozen BK231.out 3) | ((with_reducible refine gate_callee (f := 29) rfl ?_); refine goesL_ (some 53) rfl rfl Try.func29 (by kernel_rfl) rfl #[.agg #[.int .i64 t225, .int .i64 t226, .int .i64 t227, .slice Ao18 t228.length co18], .slice Ao21 t232.length co21] rfl (by (try simp only [List.map_toArray, List.map_cons, List.map_nil]); first | done | rfl | (simp only [List.length_drop, List.length_take]; rfl)) ?_; (with_reducible refine (residual_Room.calls k t225 t226 t227 _ _ t228 _ _ t232 t243 t246 _ ?side1 ?side2 ?side3 ?side4 A13.out).mono ?_); (case side1 => repeat (first | exact (Kd.R_reads' HO230.out).2.2 | (with_reducible refine Kd.C_alloc ?_ _) | (with_reducible refine Kd.C_drewN ?_ _) | (with_reducible refine Kd.C_drew ?_))); (case side2 => exact (Kd.R_reads' HO230.out).2.1); (case side3 => repeat (first | exact (Kd.R_reads' HO234.out).2.2 | (with_reducible refine Kd.C_alloc ?_ _) | (with_reducible refine Kd.C_drewN ?_ _) | (with_reducible refine Kd.C_drew ?_))); (case side4 => exact (Kd.R_reads' HO234.out).2.1); rintro e w24 ⟨v244, rfl, ho0, hb⟩; refine ⟨_, rfl, ?_⟩; have n0_ := Aside0.mk (Kd.R_below (by (with_reducible repeat first | apply Kd.R_alloc | apply Kd.R_drewN | apply Kd.R_drew); exact HO230.out) hb); have n1_ := Aside0.mk (Kd.R_elder' (by (with_reducible repeat first | apply Kd.R_alloc | apply Kd.R_drewN | apply Kd.R_drew); exact HO234.out) (Kd.R_base ho0) hb); have n2_ := Aside0.mk (Kd.R_elder' (by (with_reducible repeat first | apply Kd.R_alloc | apply Kd.R_drewN | apply Kd.R_drew); exact HO238.out) (Kd.R_base ho0) hb); have n3_ := Aside0.mk (Kd.V_elder' (by (with_reducible repeat (first | apply Kd.V_alloc | apply Kd.V_drewN | apply Kd.V_drew)); exact HO241.out) (Kd.R_base ho0) hb); have n4_ := Aside0.mk (Kd.R_lower (Kd.R_new' (Kd.R_new' ho0 (Kd.R_lt (by (with_reducible repeat first | apply Kd.R_alloc | apply Kd.R_drewN | apply Kd.R_drew); exact HO234.out))) (Kd.R_lt (by (with_reducible repeat first | apply Kd.R_alloc | apply Kd.R_drewN | apply Kd.R_drew); exact HO238.out))) (below_size (by repeat (first | (with_reducible first | exact HB.out | apply below_alloc | apply pw_below_drewN | apply below_drew1 | refine below_set ?_ GE231.out) | exact HB.out)))); have n5_ := Aside0.mk (blk_below (g := gb231) (o := .cells #[.int .i64 t225, .int .i64 t226, .int .i64 t227, .slice Ao18 t228.length co18] 26 (0, 0)) (by (with_reducible repeat first | refine blk_drewN ?_ _ | refine blk_drew ?_ | refine blk_alloc ?_ _); exact BK231.out) hb); have n6_ := Aside0.mk (below_step (by repeat (first | (with_reducible first | exact HB.out | apply below_alloc | apply pw_below_drewN | apply below_drew1 | refine below_set ?_ GE231.out) | exact HB.out)) hb); clear HO230; clear HO234; clear HO238; clear HO241; clear BK231; clear HB; have HO230 := n0_; have HO234 := n1_; have HO238 := n2_; have HO241 := n3_; have HO245 := n4_; have BK231 := n5_; have HB := n6_; clear n0_ n1_ n2_ n3_ n4_ n5_ n6_; (try clear hb); (try clear hb2); (try clear hk); (try clear hi); (try clear ho0)))
   go_loopg [20] k (fun kq v20 w' => ∃ (x18_1 : List Int) (x20_1 : Int), v20 = .int .i64 x20_1 ∧ Aside0 (racewaylaw8_PlainFills.l0 kq (wrap64 (1 + t235)) t239 x18_1 x20_1 = some r) ∧ Aside0 (kq ≤ k) ∧ Aside0 (Kd.V k61 61 w' w.heap.size (fun k_ => some k_ ≠ (v244 : Value).ownBlock ∧ some k_ ≠ ((.slice Ao18 t228.length co18) : Value).ownBlock ∧ k_ ≠ gb231) v240 t239) ∧ Aside0 (Kd.R (Kd.int .i64) 2 w' w.heap.size (fun _ => True) v244 x18_1) ∧ Aside0 (Kd.R k30 30 w' w.heap.size (fun _ => True) (.slice Ao18 t228.length co18) t228) ∧ Aside0 (w'.heap[gb231]? = some (.cells #[.int .i64 t225, .int .i64 t226, .int .i64 t227, (.slice Ao18 t228.length co18)] 26 (0, 0))) ∧ Aside0 (Below w.heap.size w w'))
   case atStart => exact ⟨(t243), (0), (by first | rfl | (simp; done) | (simp [*]; done)), H', ⟨Nat.le_refl _⟩, ⟨by (with_reducible repeat (first | apply Kd.V_alloc | apply Kd.V_drewN | apply Kd.V_drew)); exact Kd.V_mono HO241.out (fun _ hk => ⟨hk.2, ⟨hk.1.2.1, hk.1.2.2.2⟩⟩)⟩, ⟨by (with_reducible repeat first | apply Kd.R_alloc | apply Kd.R_drewN | apply Kd.R_drew); exact Kd.R_mono HO245.out (fun _ hk => trivial)⟩, ⟨by (with_reducible repeat first | apply Kd.R_alloc | apply Kd.R_drewN | apply Kd.R_drew); exact HO230.out⟩, ⟨by (with_reducible repeat first | refine blk_drewN ?_ _ | refine blk_drew ?_ | refine blk_alloc ?_ _); exact BK231.out⟩, ⟨by repeat (first | (with_reducible first | exact HB.out | apply below_alloc | apply pw_below_drewN | apply below_drew1 | refine below_set ?_ GE231.out) | exact HB.out)⟩⟩
   case round =>
    clear H'
    try clear c1
    try clear c2
    try clear p2
    try clear c3
    try clear p6
    try clear c7
    try clear c8
    try clear c12
    try clear c12b0
    try clear c12b1
    try clear c24
    try clear hcz17_0
    try clear hcz17_1
    try clear hcz17_2
    try clear hcz17_3
    try clear hcz20_0
    try clear hcz20_1
    try clear hcz20_2
    try clear hcz20_3
    try clear hcz23_0
    try clear hcz23_1
    try clear hcz23_2
    try clear hcz23_3
    try clear hfz17_0
    try clear hfz17_1
    try clear hfz17_2
    try clear hfz17_3
    try clear hfz20_0
    try clear hfz20_1
    try clear hfz20_2
    try clear hfz20_3
    try clear hfz23_0
    try clear hfz23_1
    try clear hfz23_2
    try clear hfz23_3
    obtain ⟨x18_1, x20_1, rfl, HA, HK1, HO_16, HO_18, HO_232003, BK231, HB⟩ := hrel
    cases gk with
    | zero => exact absurd HA.out (by simp [racewaylaw8_PlainFills.l0])
    | succ k1 =>
     (have H := HA.out);(clear HA);(simp only [racewaylaw8_PlainFills.l0] at H)
     by_cases c25 : x20_1 < (t239.length : Int)
     ·(rw [if_pos c25] at H);(have c25b0 : decide (x20_1 < (t239.length : Int)) = true := decide_eq_true c25);(clear c25)
      by_cases c26 : 0 ≤ x20_1
      ·(rw [if_pos c26] at H);(have c26b0 : decide (0 ≤ x20_1) = true := decide_eq_true c26);(clear c26);(have H' := Aside0.mk H);(clear H);(obtain ⟨Ao27, co27, eo27⟩ := Kd.V_slice HO_16.out);(subst eo27);(have p247 : 0 ≤ (x20_1 : Int) := of_decide_eq_true (by first | (with_reducible assumption) | assumption));(have q247 : x20_1 < (t239.length : Int) := of_decide_eq_true (by first | (with_reducible assumption) | assumption));(obtain ⟨ad247, A247_0, c247_0, e247, hx247_0, hx247_1, hl247_0, hi247_0⟩ := at_T61 (Kd.V_reads' HO_16.out).2.2 x20_1 p247 q247);(cases e247);(obtain ⟨ce247, hce247, hMe247, hcc247⟩ := Kd.V_get HO_16.out z61 x20_1 p247 (by first | exact q247 | exact of_decide_eq_true (by first | (with_reducible assumption) | assumption) | (have e_ := (Kd.V_reads' HO_16.out).1; omega)));(obtain ⟨ua247_0, uc247_0, rfl, ul247_0, ge247_0⟩ := k61_openF hMe247);(have hv247_0 := hcc247 0 _ rfl);(rw [Nat.add_zero] at hv247_0);(replace hv247_0 := Option.some.inj (hv247_0.symm.trans hx247_0));(injection hv247_0 with hva_ hvn_ hvc_);(rw [hva_] at ge247_0);(rw [hvc_] at ul247_0);(have HL247_0 := Aside0.mk (show Kd.V (Kd.int .i64) 3 _ w.heap.size _ _ ((rd_T61 t239 x20_1).f0) from Kd.V_mk ul247_0 ge247_0));(clear hva_ hvn_ hvc_ ge247_0 ul247_0);(clear hcc247 hce247);(have HR247_0 := Aside0.mk hi247_0);(have HC247_0 := Aside0.mk hl247_0);(clear hi247_0 hl247_0);(replace p247 := eq_true p247);(replace q247 := eq_true q247)
       go_wp2
       go_loopg [22, 23] k1 (fun kq v22 v23 w' => ∃ (x18_2 : List Int) (x22_2 : Bool) (x23_2 : Int), v22 = .bool x22_2 ∧ v23 = .int .i64 x23_2 ∧ Aside0 (racewaylaw8_PlainFills.l1 kq (wrap64 (1 + t235)) t239 x18_2 x20_1 ((rd_T61 t239 x20_1).f0) x22_2 x23_2 = some r) ∧ Aside0 (kq ≤ k1) ∧ Aside0 (Kd.V k61 61 w' w.heap.size (fun k_ => some k_ ≠ (v244 : Value).ownBlock ∧ some k_ ≠ ((.slice Ao18 t228.length co18) : Value).ownBlock ∧ k_ ≠ gb231) (.slice (some ad247) t239.length co27) t239) ∧ Aside0 (Kd.R (Kd.int .i64) 2 w' w.heap.size (fun _ => True) v244 x18_2) ∧ Aside0 (Kd.V (Kd.int .i64) 3 w' w.heap.size (fun k_ => some k_ ≠ (v244 : Value).ownBlock ∧ some k_ ≠ ((.slice Ao18 t228.length co18) : Value).ownBlock ∧ k_ ≠ gb231) (.slice A247_0 ((rd_T61 t239 x20_1).f0).length c247_0) ((rd_T61 t239 x20_1).f0)) ∧ Aside0 (Kd.R k30 30 w' w.heap.size (fun _ => True) (.slice Ao18 t228.length co18) t228) ∧ Aside0 (w'.heap[gb231]? = some (.cells #[.int .i64 t225, .int .i64 t226, .int .i64 t227, (.slice Ao18 t228.length co18)] 26 (0, 0))) ∧ Aside0 (Kd.C (Kd.int .i64) w' A247_0 ((rd_T61 t239 x20_1).f0).length ((rd_T61 t239 x20_1).f0)) ∧ Aside0 (Below w.heap.size w w'))
       case atStart => exact ⟨(x18_1), (false), (0), (by first | rfl | (simp; done) | (simp [*]; done)), (by first | rfl | (simp; done) | (simp [*]; done)), H', ⟨Nat.le_refl _⟩, ⟨by (with_reducible repeat (first | apply Kd.V_alloc | apply Kd.V_drewN | apply Kd.V_drew)); exact HO_16.out⟩, ⟨by (with_reducible repeat first | apply Kd.R_alloc | apply Kd.R_drewN | apply Kd.R_drew); exact HO_18.out⟩, ⟨by (with_reducible repeat (first | apply Kd.V_alloc | apply Kd.V_drewN | apply Kd.V_drew)); exact HL247_0.out⟩, ⟨by (with_reducible repeat first | apply Kd.R_alloc | apply Kd.R_drewN | apply Kd.R_drew); exact HO_232003.out⟩, ⟨by (with_reducible repeat first | refine blk_drewN ?_ _ | refine blk_drew ?_ | refine blk_alloc ?_ _); exact BK231.out⟩, ⟨by repeat (first | (with_reducible exact HR247_0.out) | (with_reducible refine Kd.C_alloc ?_ _) | (with_reducible refine Kd.C_drewN ?_ _) | (with_reducible refine Kd.C_drew ?_) | exact HR247_0.out)⟩, ⟨by repeat (first | (with_reducible first | exact HB.out | apply below_alloc | apply pw_below_drewN | apply below_drew1 | refine below_set ?_ GE231.out) | exact HB.out)⟩⟩
       case round =>
        clear H'
        try clear c1
        try clear c2
        try clear p2
        try clear q2
        try clear hx2
        try clear c3
        try clear p6
        try clear c7
        try clear c8
        try clear c12
        try clear c12b0
        try clear c12b1
        try clear c24
        try clear p24
        try clear q24
        try clear hx24
        try clear c25
        try clear c25b0
        try clear c26
        try clear c26b0
        try clear c27
        try clear hcz17_0
        try clear hcz17_1
        try clear hcz17_2
        try clear hcz17_3
        try clear hcz20_0
        try clear hcz20_1
        try clear hcz20_2
        try clear hcz20_3
        try clear hcz23_0
        try clear hcz23_1
        try clear hcz23_2
        try clear hcz23_3
        try clear hfz17_0
        try clear hfz17_1
        try clear hfz17_2
        try clear hfz17_3
        try clear hfz20_0
        try clear hfz20_1
        try clear hfz20_2
        try clear hfz20_3
        try clear hfz23_0
        try clear hfz23_1
        try clear hfz23_2
        try clear hfz23_3
        try clear hx247_0
        try clear hx247_1
        try clear p2
        try clear p247
        try clear p6
        try clear q247
        obtain ⟨x18_2, x22_2, x23_2, rfl, rfl, HA, HK2, HO_16, HO_18, HO_21, HO_232003, BK231, HR247_0, HB⟩ := hrel
        cases gk with
        | zero => exact absurd HA.out (by simp [racewaylaw8_PlainFills.l1])
        | succ k2 =>
         (have H := HA.out);(clear HA);(simp only [racewaylaw8_PlainFills.l1] at H)
         by_cases c28 : x23_2 < (((rd_T61 t239 x20_1).f0).length : Int)
         ·(rw [if_pos c28] at H);(have c28b0 : decide (x23_2 < (((rd_T61 t239 x20_1).f0).length : Int)) = true := decide_eq_true c28);(clear c28)
          by_cases c29 : 0 ≤ x23_2
          ·(rw [if_pos c29] at H);(have c29b0 : decide (0 ≤ x23_2) = true := decide_eq_true c29);(clear c29)
           by_cases c30 : 0 ≤ (rd ((rd_T61 t239 x20_1).f0) x23_2)
           ·(rw [if_pos c30] at H);(have c30b0 : decide (0 ≤ (rd ((rd_T61 t239 x20_1).f0) x23_2)) = true := decide_eq_true c30);(clear c30)
            by_cases c31 : (rd ((rd_T61 t239 x20_1).f0) x23_2) < (x18_2.length : Int)
            ·(rw [if_pos c31] at H);(have c31b0 : decide ((rd ((rd_T61 t239 x20_1).f0) x23_2) < (x18_2.length : Int)) = true := decide_eq_true c31);(clear c31)
             by_cases c32 : 0 ≤ x20_1
             ·(rw [if_pos c32] at H);(have c32b0 : decide (0 ≤ x20_1) = true := decide_eq_true c32);(clear c32)
              by_cases c33 : x20_1 < (t239.length : Int)
              ·(rw [if_pos c33] at H);(have c33b0 : decide (x20_1 < (t239.length : Int)) = true := decide_eq_true c33);(clear c33);(obtain ⟨y252, hy252⟩ : ∃ y_ : List Int, y_ = (x18_2.set ((rd ((rd_T61 t239 x20_1).f0) x23_2) : Int).toNat (wrap64 ((rd x18_2 (rd ((rd_T61 t239 x20_1).f0) x23_2)) - ((rd_T61 t239 x20_1).f1)))) := ⟨_, rfl⟩);(replace H : (if x22_2 = true then (if (wrap64 ((rd x18_2 (rd ((rd_T61 t239 x20_1).f0) x23_2)) - ((rd_T61 t239 x20_1).f1))) < 0 then (some false) else (racewaylaw8_PlainFills.l1 k2 (wrap64 (1 + t235)) t239 y252 x20_1 ((rd_T61 t239 x20_1).f0) true (wrap64 (x23_2 + 1)))) else (if (wrap64 ((rd x18_2 (rd ((rd_T61 t239 x20_1).f0) x23_2)) - ((rd_T61 t239 x20_1).f1))) < 0 then (some false) else (racewaylaw8_PlainFills.l1 k2 (wrap64 (1 + t235)) t239 y252 x20_1 ((rd_T61 t239 x20_1).f0) (decide ((wrap64 ((rd x18_2 (rd ((rd_T61 t239 x20_1).f0) x23_2)) - ((rd_T61 t239 x20_1).f1))) < (wrap64 (1 + t235)))) (wrap64 (x23_2 + 1))))) = some r := by first | (rw [hy252]; with_reducible exact H) | (have H2_ := (Option.bind_some _ _).symm.trans H; rw [hy252]; with_reducible exact H2_) | (have H2_ := (Option.bind_some _ _).symm.trans H; with_reducible exact H2_) | with_reducible exact H | (rw [hy252]; exact H) | exact H);(have Ny252 := Aside0.mk hy252);(clear hy252)
               by_cases c35 : x22_2 = true
               ·(subst c35);(have H1 : (if (wrap64 ((rd x18_2 (rd ((rd_T61 t239 x20_1).f0) x23_2)) - ((rd_T61 t239 x20_1).f1))) < 0 then (some false) else (racewaylaw8_PlainFills.l1 k2 (wrap64 (1 + t235)) t239 y252 x20_1 ((rd_T61 t239 x20_1).f0) true (wrap64 (x23_2 + 1)))) = some r := by rw [if_pos rfl] at H; exact H);(clear H);(have H := H1);(clear H1)
                by_cases c37 : (wrap64 ((rd x18_2 (rd ((rd_T61 t239 x20_1).f0) x23_2)) - ((rd_T61 t239 x20_1).f1))) < 0
                ·(rw [if_pos c37] at H);(have c37b0 : decide ((wrap64 ((rd x18_2 (rd ((rd_T61 t239 x20_1).f0) x23_2)) - ((rd_T61 t239 x20_1).f1))) < 0) = true := decide_eq_true c37);(clear c37);(exact absurd ((Option.some.inj H).trans hrT_.out) (by simp))
                ·(rw [if_neg c37] at H);(have c37b0 : decide ((wrap64 ((rd x18_2 (rd ((rd_T61 t239 x20_1).f0) x23_2)) - ((rd_T61 t239 x20_1).f1))) < 0) = false := decide_eq_false c37);(clear c37)
                 as_aux_lemma =>
                  (have H' := Aside0.mk H);(clear H)
                  try go_wp2
                  (have n0_ := Aside0.mk (Kd.V_drew HO_16.out));(have n1_ := Aside0.mk (Kd.R_drew HO_18.out));(have n2_ := Aside0.mk (Kd.V_drew HO_21.out));(have n3_ := Aside0.mk (Kd.R_drew HO_232003.out));(have n4_ := Aside0.mk (blk_drew BK231.out));(have n5_ := Aside0.mk (Kd.C_drew HR247_0.out));(have n6_ := Aside0.mk (below_drew1 HB.out));(clear HO_16);(clear HO_18);(clear HO_21);(clear HO_232003);(clear BK231);(clear HR247_0);(clear HB);(have HO_16 := n0_);(have HO_18 := n1_);(have HO_21 := n2_);(have HO_232003 := n3_);(have BK231 := n4_);(have HR247_0 := n5_);(have HB := n6_);(clear n0_ n1_ n2_ n3_ n4_ n5_ n6_);(have p248 : 0 ≤ (x23_2 : Int) := of_decide_eq_true (by first | (with_reducible assumption) | assumption));(have q248 : x23_2 < (((rd_T61 t239 x20_1).f0).length : Int) := of_decide_eq_true (by first | (with_reducible assumption) | assumption));(obtain ⟨ad248, e248, hx248_0⟩ := Kd.at_int (Kd.V_reads' HO_21.out).2.2 x23_2 p248 q248);(cases e248);(replace p248 := eq_true p248);(replace q248 := eq_true q248);(have p249 : 0 ≤ (x23_2 : Int) := of_decide_eq_true (by first | (with_reducible assumption) | assumption));(have q249 : x23_2 < (((rd_T61 t239 x20_1).f0).length : Int) := of_decide_eq_true (by first | (with_reducible assumption) | assumption));(obtain ⟨ad249, e249, hx249_0⟩ := Kd.at_int (Kd.V_reads' HO_21.out).2.2 x23_2 p249 q249);(obtain rfl : ad248 = ad249 := (by injection e249));(replace p249 := eq_true p249);(replace q249 := eq_true q249);(obtain ⟨Ao39, co39, eo39⟩ := Kd.R_slice HO_18.out);((first | subst eo39 | (injection eo39 with f1_ f2_ f3_; have f4_ := f1_.symm; have f5_ := f3_.symm; clear f1_ f2_ f3_; subst f4_; subst f5_)));(have p250 : 0 ≤ ((rd ((rd_T61 t239 x20_1).f0) x23_2) : Int) := of_decide_eq_true (by first | (with_reducible assumption) | assumption));(have q250 : (rd ((rd_T61 t239 x20_1).f0) x23_2) < (x18_2.length : Int) := of_decide_eq_true (by first | (with_reducible assumption) | assumption));(obtain ⟨ad250, e250, hx250_0⟩ := Kd.at_int (Kd.R_reads' HO_18.out).2.2 (rd ((rd_T61 t239 x20_1).f0) x23_2) p250 q250);(cases e250);(replace p250 := eq_true p250);(replace q250 := eq_true q250);(have p251 : 0 ≤ (x20_1 : Int) := of_decide_eq_true (by first | (with_reducible assumption) | assumption));(have q251 : x20_1 < (t239.length : Int) := of_decide_eq_true (by first | (with_reducible assumption) | assumption));(obtain ⟨ad251, A251_0, c251_0, e251, hx251_0, hx251_1, hl251_0, hi251_0⟩ := at_T61 (Kd.V_reads' HO_16.out).2.2 x20_1 p251 q251);(obtain rfl : ad247 = ad251 := (by injection e251));(obtain ⟨ce251, hce251, hMe251, hcc251⟩ := Kd.V_get HO_16.out z61 x20_1 p251 (by first | exact q251 | exact of_decide_eq_true (by first | (with_reducible assumption) | assumption) | (have e_ := (Kd.V_reads' HO_16.out).1; omega)));(obtain ⟨ua251_0, uc251_0, rfl, ul251_0, ge251_0⟩ := k61_openF hMe251);(have hv251_0 := hcc251 0 _ rfl);(rw [Nat.add_zero] at hv251_0);(replace hv251_0 := Option.some.inj (hv251_0.symm.trans hx251_0));(injection hv251_0 with hva_ hvn_ hvc_);(rw [hva_] at ge251_0);(rw [hvc_] at ul251_0);(have HL251_0 := Aside0.mk (show Kd.V (Kd.int .i64) 3 _ w.heap.size _ _ ((rd_T61 t239 x20_1).f0) from Kd.V_mk ul251_0 ge251_0));(clear hva_ hvn_ hvc_ ge251_0 ul251_0);(clear hcc251 hce251);(have HR251_0 := Aside0.mk hi251_0);(have HC251_0 := Aside0.mk hl251_0);(clear hi251_0 hl251_0);(replace p251 := eq_true p251);(replace q251 := eq_true q251);(have p34 : 0 ≤ ((rd ((rd_T61 t239 x20_1).f0) x23_2) : Int) := of_decide_eq_true (by first | (with_reducible assumption) | assumption));(have q34 : ((rd ((rd_T61 t239 x20_1).f0) x23_2) : Int) < ((x18_2.length : Int) : Int) := of_decide_eq_true (by first | (with_reducible assumption) | assumption));(obtain ⟨go34, co34, eo34, gb34, gl34, cl34, HG34⟩ := Kd.R_form HO_18.out (by omega));((first | cases eo34 | (injection eo34 with ea_ en_ ec_; (first | subst ea_ | (injection ea_ with ea_; subst ea_)); subst ec_; clear en_)));(have GB34 := Aside0.mk gb34);(have GG34 := Aside0.mk HG34);(clear gb34 gl34 HG34);((first | simp only [add_plain] at hx250_0 | skip));(obtain ⟨hx34_0, hf34_0⟩ := Kd.R_celln 0 HO_18.out ((rd ((rd_T61 t239 x20_1).f0) x23_2) : Int) p34 q34);(replace p34 := eq_true p34);(replace q34 := eq_true q34);(have HP40 := Kd.R_putn HO_18.out ((rd ((rd_T61 t239 x20_1).f0) x23_2) : Int) (wrap64 ((rd x18_2 (rd ((rd_T61 t239 x20_1).f0) x23_2)) - ((rd_T61 t239 x20_1).f1))));(rw [← Ny252.out] at HP40);(have HQ40 := Aside0.mk HP40);(clear HP40);(refine start_ (n := 20) (S := fun w' => w'.cell? (ad248.add (x23_2).toNat) = some (.int .i64 (rd ((rd_T61 t239 x20_1).f0) x23_2)) ∧ w'.cell? (ad248.add (x23_2).toNat) = some (.int .i64 (rd ((rd_T61 t239 x20_1).f0) x23_2)) ∧ w'.cell? ⟨go34, ((rd ((rd_T61 t239 x20_1).f0) x23_2)).toNat, none⟩ = some (.int .i64 (rd x18_2 (rd ((rd_T61 t239 x20_1).f0) x23_2))) ∧ w'.cell? (ad247.add ((x20_1).toNat * 2)) = some (.slice A251_0 ((rd_T61 t239 x20_1).f0).length c251_0) ∧ w'.cell? ⟨(ad247.add ((x20_1).toNat * 2)).block, (ad247.add ((x20_1).toNat * 2)).off + 1, none⟩ = some (.int .i64 ((rd_T61 t239 x20_1).f1))) (ds := [19]) #[false, false, false, false, false, false, false, false, false, false, false, false, false, false, false, false, false, false, false, false] (by kernel_rfl) rfl rfl ⟨hx248_0, hx249_0, hx250_0, hx251_0, hx251_1⟩ (fun hHeld => ?_); refine with_tabW racewaylaw8_PlainFills.tab19 racewaylaw8_PlainFills.bits19 (fun HT_ HW_ => ?_));(generalize wr.drew = w38 at HO_16 HO_18 HO_21 HO_232003 BK231 HR247_0 HB GG34 HL251_0 HQ40 HR251_0 hf34_0 hx248_0 hx249_0 hx250_0 hx251_0 hx251_1 hx34_0 hHeld ⊢);(refine pure_ (i := 0) (N := some 73) (v := ?_) (a' := ?_) #[true, false, false, false, false, false, false, false, false, false, false, false, false, false, false, false, false, false, false, false] rfl rfl (any_of HT_.out (by kernel_rfl)) (fun _ _ _ h => h) (Or.inl ⟨by rfl, ?_⟩) ?_ ?_)
                  rotate_left
                  ·intro w'
                   go_simp
                   with_reducible rfl
                  rotate_left
                  ·simp only [Act.put, List.setIfInBounds_toArray, List.set_cons_zero, List.set_cons_succ, i64_w, i32_w]
                   rfl
                  refine pure_ (i := 1) (N := some 74) (v := ?_) (a' := ?_) #[true, true, false, false, false, false, false, false, false, false, false, false, false, false, false, false, false, false, false, false] rfl rfl (any_of HT_.out (by kernel_rfl)) (fun _ _ _ h => h) (Or.inl ⟨by rfl, ?_⟩) ?_ ?_
                  rotate_left
                  ·intro w'
                   go_simp
                   with_reducible rfl
                  rotate_left
                  ·simp only [Act.put, List.setIfInBounds_toArray, List.set_cons_zero, List.set_cons_succ, i64_w, i32_w]
                   rfl
                  refine pure_ (i := 2) (N := some 75) (v := ?_) (a' := ?_) #[true, true, true, false, false, false, false, false, false, false, false, false, false, false, false, false, false, false, false, false] rfl rfl (any_of HT_.out (by kernel_rfl)) (fun _ _ _ h => h) (Or.inl ⟨by rfl, ?_⟩) ?_ ?_
                  rotate_left
                  ·intro w'
                   go_simp
                   with_reducible rfl
                  rotate_left
                  ·simp only [Act.put, List.setIfInBounds_toArray, List.set_cons_zero, List.set_cons_succ, i64_w, i32_w]
                   rfl
                  refine pure_ (i := 3) (N := some 76) (v := ?_) (a' := ?_) #[true, true, true, true, false, false, false, false, false, false, false, false, false, false, false, false, false, false, false, false] rfl rfl (any_of HT_.out (by kernel_rfl)) (fun _ _ _ h => h) (Or.inl ⟨by rfl, ?_⟩) ?_ ?_
                  rotate_left
                  ·intro w'
                   go_simp
                   with_reducible rfl
                  rotate_left
                  ·simp only [Act.put, List.setIfInBounds_toArray, List.set_cons_zero, List.set_cons_succ, i64_w, i32_w]
                   rfl
                  refine pure_ (i := 5) (N := some 78) (v := ?_) (a' := ?_) #[true, true, true, true, false, true, false, false, false, false, false, false, false, false, false, false, false, false, false, false] rfl rfl (any_of HT_.out (by kernel_rfl)) (fun _ _ _ h => h) (Or.inl ⟨by rfl, ?_⟩) ?_ ?_
                  rotate_left
                  ·intro w'
                   go_simp
                   with_reducible rfl
                  rotate_left
                  ·simp only [Act.put, List.setIfInBounds_toArray, List.set_cons_zero, List.set_cons_succ, i64_w, i32_w]
                   rfl
                  refine pure_ (i := 6) (N := some 79) (v := ?_) (a' := ?_) #[true, true, true, true, false, true, true, false, false, false, false, false, false, false, false, false, false, false, false, false] rfl rfl (any_of HT_.out (by kernel_rfl)) (fun _ _ _ h => h) (Or.inl ⟨by rfl, ?_⟩) ?_ ?_
                  rotate_left
                  ·intro w'
                   go_simp
                   with_reducible rfl
                  rotate_left
                  ·simp only [Act.put, List.setIfInBounds_toArray, List.set_cons_zero, List.set_cons_succ, i64_w, i32_w]
                   rfl
                  refine pure_ (i := 7) (N := some 80) (v := ?_) (a' := ?_) #[true, true, true, true, false, true, true, true, false, false, false, false, false, false, false, false, false, false, false, false] rfl rfl (any_of HT_.out (by kernel_rfl)) (fun _ _ _ h => h) (Or.inl ⟨by rfl, ?_⟩) ?_ ?_
                  rotate_left
                  ·intro w'
                   go_simp
                   with_reducible rfl
                  rotate_left
                  ·simp only [Act.put, List.setIfInBounds_toArray, List.set_cons_zero, List.set_cons_succ, i64_w, i32_w]
                   rfl
                  refine pure_ (i := 8) (N := some 81) (v := ?_) (a' := ?_) #[true, true, true, true, false, true, true, true, true, false, false, false, false, false, false, false, false, false, false, false] rfl rfl (any_of HT_.out (by kernel_rfl)) (fun _ _ _ h => h) (Or.inl ⟨by rfl, ?_⟩) ?_ ?_
                  rotate_left
                  ·intro w'
                   go_simp
                   with_reducible rfl
                  rotate_left
                  ·simp only [Act.put, List.setIfInBounds_toArray, List.set_cons_zero, List.set_cons_succ, i64_w, i32_w]
                   rfl
                  refine pure_ (i := 12) (N := some 85) (v := ?_) (a' := ?_) #[true, true, true, true, false, true, true, true, true, false, false, false, true, false, false, false, false, false, false, false] rfl rfl (any_of HT_.out (by kernel_rfl)) (fun _ _ _ h => h) (Or.inl ⟨by rfl, ?_⟩) ?_ ?_
                  rotate_left
                  ·intro w'
                   go_simp
                   with_reducible rfl
                  rotate_left
                  ·simp only [Act.put, List.setIfInBounds_toArray, List.set_cons_zero, List.set_cons_succ, i64_w, i32_w]
                   rfl
                  refine pure_ (i := 13) (N := some 86) (v := ?_) (a' := ?_) #[true, true, true, true, false, true, true, true, true, false, false, false, true, true, false, false, false, false, false, false] rfl rfl (any_of HT_.out (by kernel_rfl)) (fun _ _ _ h => h) (Or.inl ⟨by rfl, ?_⟩) ?_ ?_
                  rotate_left
                  ·intro w'
                   go_simp
                   with_reducible rfl
                  rotate_left
                  ·simp only [Act.put, List.setIfInBounds_toArray, List.set_cons_zero, List.set_cons_succ, i64_w, i32_w]
                   rfl
                  refine pure_ (i := 14) (N := some 87) (v := ?_) (a' := ?_) #[true, true, true, true, false, true, true, true, true, false, false, false, true, true, true, false, false, false, false, false] rfl rfl (any_of HT_.out (by kernel_rfl)) (fun _ _ _ h => h) (Or.inl ⟨by rfl, ?_⟩) ?_ ?_
                  rotate_left
                  ·intro w'
                   go_simp
                   with_reducible rfl
                  rotate_left
                  ·simp only [Act.put, List.setIfInBounds_toArray, List.set_cons_zero, List.set_cons_succ, i64_w, i32_w]
                   rfl
                  refine pure_ (i := 15) (N := some 88) (v := ?_) (a' := ?_) #[true, true, true, true, false, true, true, true, true, false, false, false, true, true, true, true, false, false, false, false] rfl rfl (any_of HT_.out (by kernel_rfl)) (fun _ _ _ h => h) (Or.inl ⟨by rfl, ?_⟩) ?_ ?_
                  rotate_left
                  ·intro w'
                   go_simp
                   with_reducible rfl
                  rotate_left
                  ·simp only [Act.put, List.setIfInBounds_toArray, List.set_cons_zero, List.set_cons_succ, i64_w, i32_w]
                   rfl
                  refine take_ (i := 4) (N := some 77) (v := ?_) (a' := ?_) #[true, true, true, true, true, true, true, true, true, false, false, false, true, true, true, true, false, false, false, false] rfl rfl (take_ofW HT_.out HW_.out (by kernel_rfl)) (fun _ _ _ h => h) (Or.inl ⟨by rfl, ?_⟩) hHeld ?_ ?_
                  rotate_left
                  ·rintro w' ⟨s0, s1, s2, s3, s4⟩
                   go_simp
                   with_reducible rfl
                  rotate_left
                  ·simp only [Act.put, List.setIfInBounds_toArray, List.set_cons_zero, List.set_cons_succ, i64_w, i32_w]
                   rfl
                  refine take_ (i := 9) (N := some 82) (v := ?_) (a' := ?_) #[true, true, true, true, true, true, true, true, true, true, false, false, true, true, true, true, false, false, false, false] rfl rfl (take_ofW HT_.out HW_.out (by kernel_rfl)) (fun _ _ _ h => h) (Or.inl ⟨by rfl, ?_⟩) hHeld ?_ ?_
                  rotate_left
                  ·rintro w' ⟨s0, s1, s2, s3, s4⟩
                   go_simp
                   with_reducible rfl
                  rotate_left
                  ·simp only [Act.put, List.setIfInBounds_toArray, List.set_cons_zero, List.set_cons_succ, i64_w, i32_w]
                   rfl
                  refine pure_ (i := 10) (N := some 83) (v := ?_) (a' := ?_) #[true, true, true, true, true, true, true, true, true, true, true, false, true, true, true, true, false, false, false, false] rfl rfl (any_of HT_.out (by kernel_rfl)) (fun _ _ _ h => h) (Or.inl ⟨by rfl, ?_⟩) ?_ ?_
                  rotate_left
                  ·intro w'
                   go_simp
                   with_reducible rfl
                  rotate_left
                  ·simp only [Act.put, List.setIfInBounds_toArray, List.set_cons_zero, List.set_cons_succ, i64_w, i32_w]
                   rfl
                  refine take_ (i := 11) (N := some 84) (v := ?_) (a' := ?_) #[true, true, true, true, true, true, true, true, true, true, true, true, true, true, true, true, false, false, false, false] rfl rfl (take_ofW HT_.out HW_.out (by kernel_rfl)) (fun _ _ _ h => h) (Or.inl ⟨by rfl, ?_⟩) hHeld ?_ ?_
                  rotate_left
                  ·rintro w' ⟨s0, s1, s2, s3, s4⟩
                   go_simp
                   with_reducible rfl
                  rotate_left
                  ·simp only [Act.put, List.setIfInBounds_toArray, List.set_cons_zero, List.set_cons_succ, i64_w, i32_w]
                   rfl
                  refine take_ (i := 16) (N := some 89) (v := ?_) (a' := ?_) #[true, true, true, true, true, true, true, true, true, true, true, true, true, true, true, true, true, false, false, false] rfl rfl (take_ofW HT_.out HW_.out (by kernel_rfl)) (fun _ _ _ h => h) (Or.inl ⟨by rfl, ?_⟩) hHeld ?_ ?_
                  rotate_left
                  ·rintro w' ⟨s0, s1, s2, s3, s4⟩
                   go_simp
                   with_reducible rfl
                  rotate_left
                  ·simp only [Act.put, List.setIfInBounds_toArray, List.set_cons_zero, List.set_cons_succ, i64_w, i32_w]
                   rfl
                  refine pure_ (i := 17) (N := some 90) (v := ?_) (a' := ?_) #[true, true, true, true, true, true, true, true, true, true, true, true, true, true, true, true, true, true, false, false] rfl rfl (any_of HT_.out (by kernel_rfl)) (fun _ _ _ h => h) (Or.inl ⟨by rfl, ?_⟩) ?_ ?_
                  rotate_left
                  ·intro w'
                   go_simp
                   with_reducible rfl
                  rotate_left
                  ·simp only [Act.put, List.setIfInBounds_toArray, List.set_cons_zero, List.set_cons_succ, i64_w, i32_w]
                   rfl
                  refine pure_ (i := 18) (N := some 91) (v := ?_) (a' := ?_) #[true, true, true, true, true, true, true, true, true, true, true, true, true, true, true, true, true, true, true, false] rfl rfl (any_of HT_.out (by kernel_rfl)) (fun _ _ _ h => h) (Or.inl ⟨by rfl, ?_⟩) ?_ ?_
                  rotate_left
                  ·intro w'
                   go_simp
                   with_reducible rfl
                  rotate_left
                  ·simp only [Act.put, List.setIfInBounds_toArray, List.set_cons_zero, List.set_cons_succ, i64_w, i32_w]
                   rfl
                  (refine last_ (i := 19) (N := none) #[true, true, true, true, true, true, true, true, true, true, true, true, true, true, true, true, true, true, true, true] rfl rfl (one_of HT_.out (by kernel_rfl)) (by decide) (fun K hK => ?_));(refine skip_ (w1 := ?_) (by rfl) rfl ?_ ?_)
                  rotate_left
                  ·go_simp
                   rfl
                  (refine hK.out _ _ ?_);(clear hK K);(refine done_ (done_of HT_.out (by kernel_rfl)) ?_);(have p253 : 0 ≤ (x23_2 : Int) := of_decide_eq_true (by first | (with_reducible assumption) | assumption));(have q253 : x23_2 < (((rd_T61 t239 x20_1).f0).length : Int) := of_decide_eq_true (by first | (with_reducible assumption) | assumption));(obtain ⟨ad253, e253, hx253_0⟩ := Kd.at_int (Kd.V_reads' (Kd.V_far (p := ⟨go34, ((rd ((rd_T61 t239 x20_1).f0) x23_2) : Int).toNat, none⟩) (Kd.V_mono HO_21.out (fun k_ hk => (⟨hk, fun e_ => hk.1 (by rw [e_]; rfl)⟩ : _ ∧ k_ ≠ go34))) (fun _ hk => hk.2) (.int .i64 (wrap64 ((rd x18_2 (rd ((rd_T61 t239 x20_1).f0) x23_2)) - ((rd_T61 t239 x20_1).f1)))))).2.2 x23_2 p253 q253);(obtain rfl : ad248 = ad253 := (by injection e253));(replace p253 := eq_true p253);(replace q253 := eq_true q253);(have p36 : 0 ≤ ((rd ((rd_T61 t239 x20_1).f0) x23_2) : Int) := of_decide_eq_true (by first | (with_reducible assumption) | assumption));(have q36 : ((rd ((rd_T61 t239 x20_1).f0) x23_2) : Int) < ((x18_2.length : Int) : Int) := of_decide_eq_true (by first | (with_reducible assumption) | assumption));(replace p36 := eq_true p36);(replace q36 := eq_true q36)
                  try go_wp2
                  go_roundg k2
                  case measure => have := HK1.out; have := HK2.out; omega
                  case rel => exact ⟨(y252), (true), (wrap64 (x23_2 + 1)), (by first | rfl | (simp; done) | (simp [*]; done)), (by first | rfl | (simp; done) | (simp [*]; done)), H', ⟨by have := HK1.out; have := HK2.out; omega⟩, ⟨by (with_reducible repeat (first | apply Kd.V_alloc | apply Kd.V_drewN | apply Kd.V_drew)); exact Kd.V_mono (Kd.V_far (p := ⟨go34, ((rd ((rd_T61 t239 x20_1).f0) x23_2) : Int).toNat, none⟩) (Kd.V_mono HO_16.out (fun k_ hk => (⟨hk, fun e_ => hk.1 (by rw [e_]; rfl)⟩ : _ ∧ k_ ≠ go34))) (fun _ hk => hk.2) (.int .i64 (wrap64 ((rd x18_2 (rd ((rd_T61 t239 x20_1).f0) x23_2)) - ((rd_T61 t239 x20_1).f1))))) (fun _ hk => ⟨hk.1.1, ⟨hk.1.2.1, hk.1.2.2⟩⟩)⟩, ⟨by (with_reducible repeat first | apply Kd.R_alloc | apply Kd.R_drewN | apply Kd.R_drew); exact HQ40.out⟩, ⟨by (with_reducible repeat (first | apply Kd.V_alloc | apply Kd.V_drewN | apply Kd.V_drew)); exact Kd.V_mono (Kd.V_far (p := ⟨go34, ((rd ((rd_T61 t239 x20_1).f0) x23_2) : Int).toNat, none⟩) (Kd.V_mono HO_21.out (fun k_ hk => (⟨hk, fun e_ => hk.1 (by rw [e_]; rfl)⟩ : _ ∧ k_ ≠ go34))) (fun _ hk => hk.2) (.int .i64 (wrap64 ((rd x18_2 (rd ((rd_T61 t239 x20_1).f0) x23_2)) - ((rd_T61 t239 x20_1).f1))))) (fun _ hk => ⟨hk.1.1, ⟨hk.1.2.1, hk.1.2.2⟩⟩)⟩, ⟨by (with_reducible repeat first | apply Kd.R_alloc | apply Kd.R_drewN | apply Kd.R_drew); exact Kd.R_mono (Kd.R_far (p := ⟨go34, ((rd ((rd_T61 t239 x20_1).f0) x23_2) : Int).toNat, none⟩) (Kd.R_types HO_232003.out GG34.out (by decide)) (fun _ hk => hk.2) (.int .i64 (wrap64 ((rd x18_2 (rd ((rd_T61 t239 x20_1).f0) x23_2)) - ((rd_T61 t239 x20_1).f1))))) (fun _ hk => trivial)⟩, ⟨by (with_reducible repeat first | refine blk_drewN ?_ _ | refine blk_drew ?_ | refine blk_alloc ?_ _); refine blk_far ?_ (by have h_ := Kd.R_ne HO_18.out BK231.out (by decide); intro e_; exact h_ (by rw [e_]; rfl)) _; (with_reducible repeat first | refine blk_drewN ?_ _ | refine blk_drew ?_ | refine blk_alloc ?_ _); exact BK231.out⟩, ⟨(Kd.V_reads' (by (with_reducible repeat (first | apply Kd.V_alloc | apply Kd.V_drewN | apply Kd.V_drew)); exact (Kd.V_mono (Kd.V_far (p := ⟨go34, ((rd ((rd_T61 t239 x20_1).f0) x23_2) : Int).toNat, none⟩) (Kd.V_mono HO_21.out (fun k_ hk => (⟨hk, fun e_ => hk.1 (by rw [e_]; rfl)⟩ : _ ∧ k_ ≠ go34))) (fun _ hk => hk.2) (.int .i64 (wrap64 ((rd x18_2 (rd ((rd_T61 t239 x20_1).f0) x23_2)) - ((rd_T61 t239 x20_1).f1))))) (fun _ h_ => h_.1)))).2.2⟩, ⟨by repeat (first | (with_reducible first | exact HB.out | apply below_alloc | apply pw_below_drewN | apply below_drew1 | refine below_set ?_ GB34.out | refine below_set ?_ GE231.out) | exact HB.out)⟩⟩
               ·(replace c35 := Bool.eq_false_iff.mpr c35);(subst c35);(have H1 : (if (wrap64 ((rd x18_2 (rd ((rd_T61 t239 x20_1).f0) x23_2)) - ((rd_T61 t239 x20_1).f1))) < 0 then (some false) else (racewaylaw8_PlainFills.l1 k2 (wrap64 (1 + t235)) t239 y252 x20_1 ((rd_T61 t239 x20_1).f0) (decide ((wrap64 ((rd x18_2 (rd ((rd_T61 t239 x20_1).f0) x23_2)) - ((rd_T61 t239 x20_1).f1))) < (wrap64 (1 + t235)))) (wrap64 (x23_2 + 1)))) = some r := by rw [if_neg (show ¬ (false = true) by decide)] at H; exact H);(clear H);(have H := H1);(clear H1)
                by_cases c43 : (wrap64 ((rd x18_2 (rd ((rd_T61 t239 x20_1).f0) x23_2)) - ((rd_T61 t239 x20_1).f1))) < 0
                ·(rw [if_pos c43] at H);(have c43b0 : decide ((wrap64 ((rd x18_2 (rd ((rd_T61 t239 x20_1).f0) x23_2)) - ((rd_T61 t239 x20_1).f1))) < 0) = true := decide_eq_true c43);(clear c43);(exact absurd ((Option.some.inj H).trans hrT_.out) (by simp))
                ·(rw [if_neg c43] at H);(have c43b0 : decide ((wrap64 ((rd x18_2 (rd ((rd_T61 t239 x20_1).f0) x23_2)) - ((rd_T61 t239 x20_1).f1))) < 0) = false := decide_eq_false c43);(clear c43)
                 as_aux_lemma =>
                  (have H' := Aside0.mk H);(clear H)
                  try go_wp2
                  (have n0_ := Aside0.mk (Kd.V_drew HO_16.out));(have n1_ := Aside0.mk (Kd.R_drew HO_18.out));(have n2_ := Aside0.mk (Kd.V_drew HO_21.out));(have n3_ := Aside0.mk (Kd.R_drew HO_232003.out));(have n4_ := Aside0.mk (blk_drew BK231.out));(have n5_ := Aside0.mk (Kd.C_drew HR247_0.out));(have n6_ := Aside0.mk (below_drew1 HB.out));(clear HO_16);(clear HO_18);(clear HO_21);(clear HO_232003);(clear BK231);(clear HR247_0);(clear HB);(have HO_16 := n0_);(have HO_18 := n1_);(have HO_21 := n2_);(have HO_232003 := n3_);(have BK231 := n4_);(have HR247_0 := n5_);(have HB := n6_);(clear n0_ n1_ n2_ n3_ n4_ n5_ n6_);(have p248 : 0 ≤ (x23_2 : Int) := of_decide_eq_true (by first | (with_reducible assumption) | assumption));(have q248 : x23_2 < (((rd_T61 t239 x20_1).f0).length : Int) := of_decide_eq_true (by first | (with_reducible assumption) | assumption));(obtain ⟨ad248, e248, hx248_0⟩ := Kd.at_int (Kd.V_reads' HO_21.out).2.2 x23_2 p248 q248);(cases e248);(replace p248 := eq_true p248);(replace q248 := eq_true q248);(have p249 : 0 ≤ (x23_2 : Int) := of_decide_eq_true (by first | (with_reducible assumption) | assumption));(have q249 : x23_2 < (((rd_T61 t239 x20_1).f0).length : Int) := of_decide_eq_true (by first | (with_reducible assumption) | assumption));(obtain ⟨ad249, e249, hx249_0⟩ := Kd.at_int (Kd.V_reads' HO_21.out).2.2 x23_2 p249 q249);(obtain rfl : ad248 = ad249 := (by injection e249));(replace p249 := eq_true p249);(replace q249 := eq_true q249);(obtain ⟨Ao45, co45, eo45⟩ := Kd.R_slice HO_18.out);((first | subst eo45 | (injection eo45 with f1_ f2_ f3_; have f4_ := f1_.symm; have f5_ := f3_.symm; clear f1_ f2_ f3_; subst f4_; subst f5_)));(have p250 : 0 ≤ ((rd ((rd_T61 t239 x20_1).f0) x23_2) : Int) := of_decide_eq_true (by first | (with_reducible assumption) | assumption));(have q250 : (rd ((rd_T61 t239 x20_1).f0) x23_2) < (x18_2.length : Int) := of_decide_eq_true (by first | (with_reducible assumption) | assumption));(obtain ⟨ad250, e250, hx250_0⟩ := Kd.at_int (Kd.R_reads' HO_18.out).2.2 (rd ((rd_T61 t239 x20_1).f0) x23_2) p250 q250);(cases e250);(replace p250 := eq_true p250);(replace q250 := eq_true q250);(have p251 : 0 ≤ (x20_1 : Int) := of_decide_eq_true (by first | (with_reducible assumption) | assumption));(have q251 : x20_1 < (t239.length : Int) := of_decide_eq_true (by first | (with_reducible assumption) | assumption));(obtain ⟨ad251, A251_0, c251_0, e251, hx251_0, hx251_1, hl251_0, hi251_0⟩ := at_T61 (Kd.V_reads' HO_16.out).2.2 x20_1 p251 q251);(obtain rfl : ad247 = ad251 := (by injection e251));(obtain ⟨ce251, hce251, hMe251, hcc251⟩ := Kd.V_get HO_16.out z61 x20_1 p251 (by first | exact q251 | exact of_decide_eq_true (by first | (with_reducible assumption) | assumption) | (have e_ := (Kd.V_reads' HO_16.out).1; omega)));(obtain ⟨ua251_0, uc251_0, rfl, ul251_0, ge251_0⟩ := k61_openF hMe251);(have hv251_0 := hcc251 0 _ rfl);(rw [Nat.add_zero] at hv251_0);(replace hv251_0 := Option.some.inj (hv251_0.symm.trans hx251_0));(injection hv251_0 with hva_ hvn_ hvc_);(rw [hva_] at ge251_0);(rw [hvc_] at ul251_0);(have HL251_0 := Aside0.mk (show Kd.V (Kd.int .i64) 3 _ w.heap.size _ _ ((rd_T61 t239 x20_1).f0) from Kd.V_mk ul251_0 ge251_0));(clear hva_ hvn_ hvc_ ge251_0 ul251_0);(clear hcc251 hce251);(have HR251_0 := Aside0.mk hi251_0);(have HC251_0 := Aside0.mk hl251_0);(clear hi251_0 hl251_0);(replace p251 := eq_true p251);(replace q251 := eq_true q251);(have p34 : 0 ≤ ((rd ((rd_T61 t239 x20_1).f0) x23_2) : Int) := of_decide_eq_true (by first | (with_reducible assumption) | assumption));(have q34 : ((rd ((rd_T61 t239 x20_1).f0) x23_2) : Int) < ((x18_2.length : Int) : Int) := of_decide_eq_true (by first | (with_reducible assumption) | assumption));(obtain ⟨go34, co34, eo34, gb34, gl34, cl34, HG34⟩ := Kd.R_form HO_18.out (by omega));((first | cases eo34 | (injection eo34 with ea_ en_ ec_; (first | subst ea_ | (injection ea_ with ea_; subst ea_)); subst ec_; clear en_)));(have GB34 := Aside0.mk gb34);(have GG34 := Aside0.mk HG34);(clear gb34 gl34 HG34);((first | simp only [add_plain] at hx250_0 | skip));(obtain ⟨hx34_0, hf34_0⟩ := Kd.R_celln 0 HO_18.out ((rd ((rd_T61 t239 x20_1).f0) x23_2) : Int) p34 q34);(replace p34 := eq_true p34);(replace q34 := eq_true q34);(have HP46 := Kd.R_putn HO_18.out ((rd ((rd_T61 t239 x20_1).f0) x23_2) : Int) (wrap64 ((rd x18_2 (rd ((rd_T61 t239 x20_1).f0) x23_2)) - ((rd_T61 t239 x20_1).f1))));(rw [← Ny252.out] at HP46);(have HQ46 := Aside0.mk HP46);(clear HP46);(refine start_ (n := 20) (S := fun w' => w'.cell? (ad248.add (x23_2).toNat) = some (.int .i64 (rd ((rd_T61 t239 x20_1).f0) x23_2)) ∧ w'.cell? (ad248.add (x23_2).toNat) = some (.int .i64 (rd ((rd_T61 t239 x20_1).f0) x23_2)) ∧ w'.cell? ⟨go34, ((rd ((rd_T61 t239 x20_1).f0) x23_2)).toNat, none⟩ = some (.int .i64 (rd x18_2 (rd ((rd_T61 t239 x20_1).f0) x23_2))) ∧ w'.cell? (ad247.add ((x20_1).toNat * 2)) = some (.slice A251_0 ((rd_T61 t239 x20_1).f0).length c251_0) ∧ w'.cell? ⟨(ad247.add ((x20_1).toNat * 2)).block, (ad247.add ((x20_1).toNat * 2)).off + 1, none⟩ = some (.int .i64 ((rd_T61 t239 x20_1).f1))) (ds := [19]) #[false, false, false, false, false, false, false, false, false, false, false, false, false, false, false, false, false, false, false, false] (by kernel_rfl) rfl rfl ⟨hx248_0, hx249_0, hx250_0, hx251_0, hx251_1⟩ (fun hHeld => ?_); refine with_tabW racewaylaw8_PlainFills.tab19 racewaylaw8_PlainFills.bits19 (fun HT_ HW_ => ?_));(generalize wr.drew = w44 at HO_16 HO_18 HO_21 HO_232003 BK231 HR247_0 HB GG34 HL251_0 HQ46 HR251_0 hf34_0 hx248_0 hx249_0 hx250_0 hx251_0 hx251_1 hx34_0 hHeld ⊢);(refine pure_ (i := 0) (N := some 73) (v := ?_) (a' := ?_) #[true, false, false, false, false, false, false, false, false, false, false, false, false, false, false, false, false, false, false, false] rfl rfl (any_of HT_.out (by kernel_rfl)) (fun _ _ _ h => h) (Or.inl ⟨by rfl, ?_⟩) ?_ ?_)
                  rotate_left
                  ·intro w'
                   go_simp
                   with_reducible rfl
                  rotate_left
                  ·simp only [Act.put, List.setIfInBounds_toArray, List.set_cons_zero, List.set_cons_succ, i64_w, i32_w]
                   rfl
                  refine pure_ (i := 1) (N := some 74) (v := ?_) (a' := ?_) #[true, true, false, false, false, false, false, false, false, false, false, false, false, false, false, false, false, false, false, false] rfl rfl (any_of HT_.out (by kernel_rfl)) (fun _ _ _ h => h) (Or.inl ⟨by rfl, ?_⟩) ?_ ?_
                  rotate_left
                  ·intro w'
                   go_simp
                   with_reducible rfl
                  rotate_left
                  ·simp only [Act.put, List.setIfInBounds_toArray, List.set_cons_zero, List.set_cons_succ, i64_w, i32_w]
                   rfl
                  refine pure_ (i := 2) (N := some 75) (v := ?_) (a' := ?_) #[true, true, true, false, false, false, false, false, false, false, false, false, false, false, false, false, false, false, false, false] rfl rfl (any_of HT_.out (by kernel_rfl)) (fun _ _ _ h => h) (Or.inl ⟨by rfl, ?_⟩) ?_ ?_
                  rotate_left
                  ·intro w'
                   go_simp
                   with_reducible rfl
                  rotate_left
                  ·simp only [Act.put, List.setIfInBounds_toArray, List.set_cons_zero, List.set_cons_succ, i64_w, i32_w]
                   rfl
                  refine pure_ (i := 3) (N := some 76) (v := ?_) (a' := ?_) #[true, true, true, true, false, false, false, false, false, false, false, false, false, false, false, false, false, false, false, false] rfl rfl (any_of HT_.out (by kernel_rfl)) (fun _ _ _ h => h) (Or.inl ⟨by rfl, ?_⟩) ?_ ?_
                  rotate_left
                  ·intro w'
                   go_simp
                   with_reducible rfl
                  rotate_left
                  ·simp only [Act.put, List.setIfInBounds_toArray, List.set_cons_zero, List.set_cons_succ, i64_w, i32_w]
                   rfl
                  refine pure_ (i := 5) (N := some 78) (v := ?_) (a' := ?_) #[true, true, true, true, false, true, false, false, false, false, false, false, false, false, false, false, false, false, false, false] rfl rfl (any_of HT_.out (by kernel_rfl)) (fun _ _ _ h => h) (Or.inl ⟨by rfl, ?_⟩) ?_ ?_
                  rotate_left
                  ·intro w'
                   go_simp
                   with_reducible rfl
                  rotate_left
                  ·simp only [Act.put, List.setIfInBounds_toArray, List.set_cons_zero, List.set_cons_succ, i64_w, i32_w]
                   rfl
                  refine pure_ (i := 6) (N := some 79) (v := ?_) (a' := ?_) #[true, true, true, true, false, true, true, false, false, false, false, false, false, false, false, false, false, false, false, false] rfl rfl (any_of HT_.out (by kernel_rfl)) (fun _ _ _ h => h) (Or.inl ⟨by rfl, ?_⟩) ?_ ?_
                  rotate_left
                  ·intro w'
                   go_simp
                   with_reducible rfl
                  rotate_left
                  ·simp only [Act.put, List.setIfInBounds_toArray, List.set_cons_zero, List.set_cons_succ, i64_w, i32_w]
                   rfl
                  refine pure_ (i := 7) (N := some 80) (v := ?_) (a' := ?_) #[true, true, true, true, false, true, true, true, false, false, false, false, false, false, false, false, false, false, false, false] rfl rfl (any_of HT_.out (by kernel_rfl)) (fun _ _ _ h => h) (Or.inl ⟨by rfl, ?_⟩) ?_ ?_
                  rotate_left
                  ·intro w'
                   go_simp
                   with_reducible rfl
                  rotate_left
                  ·simp only [Act.put, List.setIfInBounds_toArray, List.set_cons_zero, List.set_cons_succ, i64_w, i32_w]
                   rfl
                  refine pure_ (i := 8) (N := some 81) (v := ?_) (a' := ?_) #[true, true, true, true, false, true, true, true, true, false, false, false, false, false, false, false, false, false, false, false] rfl rfl (any_of HT_.out (by kernel_rfl)) (fun _ _ _ h => h) (Or.inl ⟨by rfl, ?_⟩) ?_ ?_
                  rotate_left
                  ·intro w'
                   go_simp
                   with_reducible rfl
                  rotate_left
                  ·simp only [Act.put, List.setIfInBounds_toArray, List.set_cons_zero, List.set_cons_succ, i64_w, i32_w]
                   rfl
                  refine pure_ (i := 12) (N := some 85) (v := ?_) (a' := ?_) #[true, true, true, true, false, true, true, true, true, false, false, false, true, false, false, false, false, false, false, false] rfl rfl (any_of HT_.out (by kernel_rfl)) (fun _ _ _ h => h) (Or.inl ⟨by rfl, ?_⟩) ?_ ?_
                  rotate_left
                  ·intro w'
                   go_simp
                   with_reducible rfl
                  rotate_left
                  ·simp only [Act.put, List.setIfInBounds_toArray, List.set_cons_zero, List.set_cons_succ, i64_w, i32_w]
                   rfl
                  refine pure_ (i := 13) (N := some 86) (v := ?_) (a' := ?_) #[true, true, true, true, false, true, true, true, true, false, false, false, true, true, false, false, false, false, false, false] rfl rfl (any_of HT_.out (by kernel_rfl)) (fun _ _ _ h => h) (Or.inl ⟨by rfl, ?_⟩) ?_ ?_
                  rotate_left
                  ·intro w'
                   go_simp
                   with_reducible rfl
                  rotate_left
                  ·simp only [Act.put, List.setIfInBounds_toArray, List.set_cons_zero, List.set_cons_succ, i64_w, i32_w]
                   rfl
                  refine pure_ (i := 14) (N := some 87) (v := ?_) (a' := ?_) #[true, true, true, true, false, true, true, true, true, false, false, false, true, true, true, false, false, false, false, false] rfl rfl (any_of HT_.out (by kernel_rfl)) (fun _ _ _ h => h) (Or.inl ⟨by rfl, ?_⟩) ?_ ?_
                  rotate_left
                  ·intro w'
                   go_simp
                   with_reducible rfl
                  rotate_left
                  ·simp only [Act.put, List.setIfInBounds_toArray, List.set_cons_zero, List.set_cons_succ, i64_w, i32_w]
                   rfl
                  refine pure_ (i := 15) (N := some 88) (v := ?_) (a' := ?_) #[true, true, true, true, false, true, true, true, true, false, false, false, true, true, true, true, false, false, false, false] rfl rfl (any_of HT_.out (by kernel_rfl)) (fun _ _ _ h => h) (Or.inl ⟨by rfl, ?_⟩) ?_ ?_
                  rotate_left
                  ·intro w'
                   go_simp
                   with_reducible rfl
                  rotate_left
                  ·simp only [Act.put, List.setIfInBounds_toArray, List.set_cons_zero, List.set_cons_succ, i64_w, i32_w]
                   rfl
                  refine take_ (i := 4) (N := some 77) (v := ?_) (a' := ?_) #[true, true, true, true, true, true, true, true, true, false, false, false, true, true, true, true, false, false, false, false] rfl rfl (take_ofW HT_.out HW_.out (by kernel_rfl)) (fun _ _ _ h => h) (Or.inl ⟨by rfl, ?_⟩) hHeld ?_ ?_
                  rotate_left
                  ·rintro w' ⟨s0, s1, s2, s3, s4⟩
                   go_simp
                   with_reducible rfl
                  rotate_left
                  ·simp only [Act.put, List.setIfInBounds_toArray, List.set_cons_zero, List.set_cons_succ, i64_w, i32_w]
                   rfl
                  refine take_ (i := 9) (N := some 82) (v := ?_) (a' := ?_) #[true, true, true, true, true, true, true, true, true, true, false, false, true, true, true, true, false, false, false, false] rfl rfl (take_ofW HT_.out HW_.out (by kernel_rfl)) (fun _ _ _ h => h) (Or.inl ⟨by rfl, ?_⟩) hHeld ?_ ?_
                  rotate_left
                  ·rintro w' ⟨s0, s1, s2, s3, s4⟩
                   go_simp
                   with_reducible rfl
                  rotate_left
                  ·simp only [Act.put, List.setIfInBounds_toArray, List.set_cons_zero, List.set_cons_succ, i64_w, i32_w]
                   rfl
                  refine pure_ (i := 10) (N := some 83) (v := ?_) (a' := ?_) #[true, true, true, true, true, true, true, true, true, true, true, false, true, true, true, true, false, false, false, false] rfl rfl (any_of HT_.out (by kernel_rfl)) (fun _ _ _ h => h) (Or.inl ⟨by rfl, ?_⟩) ?_ ?_
                  rotate_left
                  ·intro w'
                   go_simp
                   with_reducible rfl
                  rotate_left
                  ·simp only [Act.put, List.setIfInBounds_toArray, List.set_cons_zero, List.set_cons_succ, i64_w, i32_w]
                   rfl
                  refine take_ (i := 11) (N := some 84) (v := ?_) (a' := ?_) #[true, true, true, true, true, true, true, true, true, true, true, true, true, true, true, true, false, false, false, false] rfl rfl (take_ofW HT_.out HW_.out (by kernel_rfl)) (fun _ _ _ h => h) (Or.inl ⟨by rfl, ?_⟩) hHeld ?_ ?_
                  rotate_left
                  ·rintro w' ⟨s0, s1, s2, s3, s4⟩
                   go_simp
                   with_reducible rfl
                  rotate_left
                  ·simp only [Act.put, List.setIfInBounds_toArray, List.set_cons_zero, List.set_cons_succ, i64_w, i32_w]
                   rfl
                  refine take_ (i := 16) (N := some 89) (v := ?_) (a' := ?_) #[true, true, true, true, true, true, true, true, true, true, true, true, true, true, true, true, true, false, false, false] rfl rfl (take_ofW HT_.out HW_.out (by kernel_rfl)) (fun _ _ _ h => h) (Or.inl ⟨by rfl, ?_⟩) hHeld ?_ ?_
                  rotate_left
                  ·rintro w' ⟨s0, s1, s2, s3, s4⟩
                   go_simp
                   with_reducible rfl
                  rotate_left
                  ·simp only [Act.put, List.setIfInBounds_toArray, List.set_cons_zero, List.set_cons_succ, i64_w, i32_w]
                   rfl
                  refine pure_ (i := 17) (N := some 90) (v := ?_) (a' := ?_) #[true, true, true, true, true, true, true, true, true, true, true, true, true, true, true, true, true, true, false, false] rfl rfl (any_of HT_.out (by kernel_rfl)) (fun _ _ _ h => h) (Or.inl ⟨by rfl, ?_⟩) ?_ ?_
                  rotate_left
                  ·intro w'
                   go_simp
                   with_reducible rfl
                  rotate_left
                  ·simp only [Act.put, List.setIfInBounds_toArray, List.set_cons_zero, List.set_cons_succ, i64_w, i32_w]
                   rfl
                  refine pure_ (i := 18) (N := some 91) (v := ?_) (a' := ?_) #[true, true, true, true, true, true, true, true, true, true, true, true, true, true, true, true, true, true, true, false] rfl rfl (any_of HT_.out (by kernel_rfl)) (fun _ _ _ h => h) (Or.inl ⟨by rfl, ?_⟩) ?_ ?_
                  rotate_left
                  ·intro w'
                   go_simp
                   with_reducible rfl
                  rotate_left
                  ·simp only [Act.put, List.setIfInBounds_toArray, List.set_cons_zero, List.set_cons_succ, i64_w, i32_w]
                   rfl
                  (refine last_ (i := 19) (N := none) #[true, true, true, true, true, true, true, true, true, true, true, true, true, true, true, true, true, true, true, true] rfl rfl (one_of HT_.out (by kernel_rfl)) (by decide) (fun K hK => ?_));(refine skip_ (w1 := ?_) (by rfl) rfl ?_ ?_)
                  rotate_left
                  ·go_simp
                   rfl
                  (refine hK.out _ _ ?_);(clear hK K);(refine done_ (done_of HT_.out (by kernel_rfl)) ?_);(have p255 : 0 ≤ (x23_2 : Int) := of_decide_eq_true (by first | (with_reducible assumption) | assumption));(have q255 : x23_2 < (((rd_T61 t239 x20_1).f0).length : Int) := of_decide_eq_true (by first | (with_reducible assumption) | assumption));(obtain ⟨ad255, e255, hx255_0⟩ := Kd.at_int (Kd.V_reads' (Kd.V_far (p := ⟨go34, ((rd ((rd_T61 t239 x20_1).f0) x23_2) : Int).toNat, none⟩) (Kd.V_mono HO_21.out (fun k_ hk => (⟨hk, fun e_ => hk.1 (by rw [e_]; rfl)⟩ : _ ∧ k_ ≠ go34))) (fun _ hk => hk.2) (.int .i64 (wrap64 ((rd x18_2 (rd ((rd_T61 t239 x20_1).f0) x23_2)) - ((rd_T61 t239 x20_1).f1)))))).2.2 x23_2 p255 q255);(obtain rfl : ad248 = ad255 := (by injection e255));(replace p255 := eq_true p255);(replace q255 := eq_true q255);(have p41 : 0 ≤ ((rd ((rd_T61 t239 x20_1).f0) x23_2) : Int) := of_decide_eq_true (by first | (with_reducible assumption) | assumption));(have q41 : ((rd ((rd_T61 t239 x20_1).f0) x23_2) : Int) < ((x18_2.length : Int) : Int) := of_decide_eq_true (by first | (with_reducible assumption) | assumption));(replace p41 := eq_true p41);(replace q41 := eq_true q41);(have p257 : 0 ≤ (x23_2 : Int) := of_decide_eq_true (by first | (with_reducible assumption) | assumption));(have q257 : x23_2 < (((rd_T61 t239 x20_1).f0).length : Int) := of_decide_eq_true (by first | (with_reducible assumption) | assumption));(obtain ⟨ad257, e257, hx257_0⟩ := Kd.at_int (Kd.V_reads' (Kd.V_far (p := ⟨go34, ((rd ((rd_T61 t239 x20_1).f0) x23_2) : Int).toNat, none⟩) (Kd.V_mono HO_21.out (fun k_ hk => (⟨hk, fun e_ => hk.1 (by rw [e_]; rfl)⟩ : _ ∧ k_ ≠ go34))) (fun _ hk => hk.2) (.int .i64 (wrap64 ((rd x18_2 (rd ((rd_T61 t239 x20_1).f0) x23_2)) - ((rd_T61 t239 x20_1).f1)))))).2.2 x23_2 p257 q257);(obtain rfl : ad248 = ad257 := (by injection e257));(replace p257 := eq_true p257);(replace q257 := eq_true q257);(have p42 : 0 ≤ ((rd ((rd_T61 t239 x20_1).f0) x23_2) : Int) := of_decide_eq_true (by first | (with_reducible assumption) | assumption));(have q42 : ((rd ((rd_T61 t239 x20_1).f0) x23_2) : Int) < ((x18_2.length : Int) : Int) := of_decide_eq_true (by first | (with_reducible assumption) | assumption));(replace p42 := eq_true p42);(replace q42 := eq_true q42)
                  try go_wp2
                  go_roundg k2
                  case measure => have := HK1.out; have := HK2.out; omega
                  case rel => exact ⟨(y252), (decide ((wrap64 ((rd x18_2 (rd ((rd_T61 t239 x20_1).f0) x23_2)) - ((rd_T61 t239 x20_1).f1))) < (wrap64 (1 + t235)))), (wrap64 (x23_2 + 1)), (by first | rfl | (simp; done) | (simp [*]; done)), (by first | rfl | (simp; done) | (simp [*]; done)), H', ⟨by have := HK1.out; have := HK2.out; omega⟩, ⟨by (with_reducible repeat (first | apply Kd.V_alloc | apply Kd.V_drewN | apply Kd.V_drew)); exact Kd.V_mono (Kd.V_far (p := ⟨go34, ((rd ((rd_T61 t239 x20_1).f0) x23_2) : Int).toNat, none⟩) (Kd.V_mono HO_16.out (fun k_ hk => (⟨hk, fun e_ => hk.1 (by rw [e_]; rfl)⟩ : _ ∧ k_ ≠ go34))) (fun _ hk => hk.2) (.int .i64 (wrap64 ((rd x18_2 (rd ((rd_T61 t239 x20_1).f0) x23_2)) - ((rd_T61 t239 x20_1).f1))))) (fun _ hk => ⟨hk.1.1, ⟨hk.1.2.1, hk.1.2.2⟩⟩)⟩, ⟨by (with_reducible repeat first | apply Kd.R_alloc | apply Kd.R_drewN | apply Kd.R_drew); exact HQ46.out⟩, ⟨by (with_reducible repeat (first | apply Kd.V_alloc | apply Kd.V_drewN | apply Kd.V_drew)); exact Kd.V_mono (Kd.V_far (p := ⟨go34, ((rd ((rd_T61 t239 x20_1).f0) x23_2) : Int).toNat, none⟩) (Kd.V_mono HO_21.out (fun k_ hk => (⟨hk, fun e_ => hk.1 (by rw [e_]; rfl)⟩ : _ ∧ k_ ≠ go34))) (fun _ hk => hk.2) (.int .i64 (wrap64 ((rd x18_2 (rd ((rd_T61 t239 x20_1).f0) x23_2)) - ((rd_T61 t239 x20_1).f1))))) (fun _ hk => ⟨hk.1.1, ⟨hk.1.2.1, hk.1.2.2⟩⟩)⟩, ⟨by (with_reducible repeat first | apply Kd.R_alloc | apply Kd.R_drewN | apply Kd.R_drew); exact Kd.R_mono (Kd.R_far (p := ⟨go34, ((rd ((rd_T61 t239 x20_1).f0) x23_2) : Int).toNat, none⟩) (Kd.R_types HO_232003.out GG34.out (by decide)) (fun _ hk => hk.2) (.int .i64 (wrap64 ((rd x18_2 (rd ((rd_T61 t239 x20_1).f0) x23_2)) - ((rd_T61 t239 x20_1).f1))))) (fun _ hk => trivial)⟩, ⟨by (with_reducible repeat first | refine blk_drewN ?_ _ | refine blk_drew ?_ | refine blk_alloc ?_ _); refine blk_far ?_ (by have h_ := Kd.R_ne HO_18.out BK231.out (by decide); intro e_; exact h_ (by rw [e_]; rfl)) _; (with_reducible repeat first | refine blk_drewN ?_ _ | refine blk_drew ?_ | refine blk_alloc ?_ _); exact BK231.out⟩, ⟨(Kd.V_reads' (by (with_reducible repeat (first | apply Kd.V_alloc | apply Kd.V_drewN | apply Kd.V_drew)); exact (Kd.V_mono (Kd.V_far (p := ⟨go34, ((rd ((rd_T61 t239 x20_1).f0) x23_2) : Int).toNat, none⟩) (Kd.V_mono HO_21.out (fun k_ hk => (⟨hk, fun e_ => hk.1 (by rw [e_]; rfl)⟩ : _ ∧ k_ ≠ go34))) (fun _ hk => hk.2) (.int .i64 (wrap64 ((rd x18_2 (rd ((rd_T61 t239 x20_1).f0) x23_2)) - ((rd_T61 t239 x20_1).f1))))) (fun _ h_ => h_.1)))).2.2⟩, ⟨by repeat (first | (with_reducible first | exact HB.out | apply below_alloc | apply pw_below_drewN | apply below_drew1 | refine below_set ?_ GB34.out | refine below_set ?_ GE231.out) | exact HB.out)⟩⟩
              ·(rw [if_neg c33] at H);(exact absurd H (by simp))
             ·(rw [if_neg c32] at H);(exact absurd H (by simp))
            ·(rw [if_neg c31] at H);(exact absurd H (by simp))
           ·(rw [if_neg c30] at H);(exact absurd H (by simp))
          ·(rw [if_neg c29] at H);(exact absurd H (by simp))
         ·(rw [if_neg c28] at H);(have c28b0 : decide (x23_2 < (((rd_T61 t239 x20_1).f0).length : Int)) = false := decide_eq_false c28);(clear c28);(have HC47 := Aside0.mk H);(clear H)
          go_upto_region 23 with (fail)
          go_cut [122] (fun v122 wc => ∃ (kq : Nat) (x122_46 : Bool), v122 = .bool x122_46 ∧ Aside0 (racewaylaw8_PlainFills.j2 kq (wrap64 (1 + t235)) t239 x18_2 x20_1 ((rd_T61 t239 x20_1).f0) x122_46 = some r) ∧ Aside0 (kq ≤ k2) ∧ Aside0 (Kd.V k61 61 wc w.heap.size (fun k_ => some k_ ≠ (v244 : Value).ownBlock ∧ some k_ ≠ ((.slice Ao18 t228.length co18) : Value).ownBlock ∧ k_ ≠ gb231) (.slice (some ad247) t239.length co27) t239) ∧ Aside0 (Kd.R (Kd.int .i64) 2 wc w.heap.size (fun _ => True) v244 x18_2) ∧ Aside0 (Kd.V (Kd.int .i64) 3 wc w.heap.size (fun k_ => some k_ ≠ (v244 : Value).ownBlock ∧ some k_ ≠ ((.slice Ao18 t228.length co18) : Value).ownBlock ∧ k_ ≠ gb231) (.slice A247_0 ((rd_T61 t239 x20_1).f0).length c247_0) ((rd_T61 t239 x20_1).f0)) ∧ Aside0 (Kd.R k30 30 wc w.heap.size (fun _ => True) (.slice Ao18 t228.length co18) t228) ∧ Aside0 (wc.heap[gb231]? = some (.cells #[.int .i64 t225, .int .i64 t226, .int .i64 t227, (.slice Ao18 t228.length co18)] 26 (0, 0))) ∧ Aside0 (Kd.C (Kd.int .i64) wc A247_0 ((rd_T61 t239 x20_1).f0).length ((rd_T61 t239 x20_1).f0)) ∧ Aside0 (Below w.heap.size w wc))
          case first =>
           (have H := HC47.out);(clear HC47)
           by_cases c48 : x22_2 = true
           ·(subst c48);(have H1 : (if 0 ≤ x20_1 then (if x20_1 < (t239.length : Int) then (racewaylaw8_PlainFills.j2 k2 (wrap64 (1 + t235)) t239 x18_2 x20_1 ((rd_T61 t239 x20_1).f0) (decide (((rd_T61 t239 x20_1).f1) < (wrap64 (1 + t235))))) else (none)) else (none)) = some r := by rw [if_pos rfl] at H; exact H);(clear H);(have H := H1);(clear H1)
            by_cases c49 : 0 ≤ x20_1
            ·(rw [if_pos c49] at H);(have c49b0 : decide (0 ≤ x20_1) = true := decide_eq_true c49);(clear c49);((first | rw [c49b0] | (simp only [i64_w, i32_w]; rw [c49b0]) | skip))
             by_cases c50 : x20_1 < (t239.length : Int)
             ·(rw [if_pos c50] at H);(have c50b0 : decide (x20_1 < (t239.length : Int)) = true := decide_eq_true c50);(clear c50)
              as_aux_lemma =>
               (have H' := Aside0.mk H);(clear H);(have p259 : 0 ≤ (x20_1 : Int) := of_decide_eq_true (by first | (with_reducible assumption) | assumption));(have q259 : x20_1 < (t239.length : Int) := of_decide_eq_true (by first | (with_reducible assumption) | assumption));(obtain ⟨ad259, A259_0, c259_0, e259, hx259_0, hx259_1, hl259_0, hi259_0⟩ := at_T61 (Kd.V_reads' HO_16.out).2.2 x20_1 p259 q259);(obtain rfl : ad247 = ad259 := (by injection e259));(obtain ⟨ce259, hce259, hMe259, hcc259⟩ := Kd.V_get HO_16.out z61 x20_1 p259 (by first | exact q259 | exact of_decide_eq_true (by first | (with_reducible assumption) | assumption) | (have e_ := (Kd.V_reads' HO_16.out).1; omega)));(obtain ⟨ua259_0, uc259_0, rfl, ul259_0, ge259_0⟩ := k61_openF hMe259);(have hv259_0 := hcc259 0 _ rfl);(rw [Nat.add_zero] at hv259_0);(replace hv259_0 := Option.some.inj (hv259_0.symm.trans hx259_0));(injection hv259_0 with hva_ hvn_ hvc_);(rw [hva_] at ge259_0);(rw [hvc_] at ul259_0);(have HL259_0 := Aside0.mk (show Kd.V (Kd.int .i64) 3 _ w.heap.size _ _ ((rd_T61 t239 x20_1).f0) from Kd.V_mk ul259_0 ge259_0));(clear hva_ hvn_ hvc_ ge259_0 ul259_0);(clear hcc259 hce259);(have HR259_0 := Aside0.mk hi259_0);(have HC259_0 := Aside0.mk hl259_0);(clear hi259_0 hl259_0);(replace p259 := eq_true p259);(replace q259 := eq_true q259)
               go_wp2
               go_meet
               case rel => exact ⟨_, (decide (((rd_T61 t239 x20_1).f1) < (wrap64 (1 + t235)))), (by first | rfl | (simp; done) | (simp [*]; done)), H', ⟨by have := HK1.out; have := HK2.out; first | omega | exact Nat.le_refl _⟩, ⟨by (with_reducible repeat (first | apply Kd.V_alloc | apply Kd.V_drewN | apply Kd.V_drew)); exact HO_16.out⟩, ⟨by (with_reducible repeat first | apply Kd.R_alloc | apply Kd.R_drewN | apply Kd.R_drew); exact HO_18.out⟩, ⟨by (with_reducible repeat (first | apply Kd.V_alloc | apply Kd.V_drewN | apply Kd.V_drew)); exact HO_21.out⟩, ⟨by (with_reducible repeat first | apply Kd.R_alloc | apply Kd.R_drewN | apply Kd.R_drew); exact HO_232003.out⟩, ⟨by (with_reducible repeat first | refine blk_drewN ?_ _ | refine blk_drew ?_ | refine blk_alloc ?_ _); exact BK231.out⟩, ⟨by repeat (first | (with_reducible exact HR247_0.out) | (with_reducible refine Kd.C_alloc ?_ _) | (with_reducible refine Kd.C_drewN ?_ _) | (with_reducible refine Kd.C_drew ?_) | exact HR247_0.out)⟩, ⟨by repeat (first | (with_reducible first | exact HB.out | apply below_alloc | apply pw_below_drewN | apply below_drew1 | refine below_set ?_ GE231.out) | exact HB.out)⟩⟩
             ·(rw [if_neg c50] at H);(exact absurd H (by simp))
            ·(rw [if_neg c49] at H);(exact absurd H (by simp))
           ·(replace c48 := Bool.eq_false_iff.mpr c48);(subst c48);(have H1 : (racewaylaw8_PlainFills.j2 k2 (wrap64 (1 + t235)) t239 x18_2 x20_1 ((rd_T61 t239 x20_1).f0) true) = some r := by rw [if_neg (show ¬ (false = true) by decide)] at H; exact H);(clear H);(have H := H1);(clear H1)
            as_aux_lemma =>
             (have H' := Aside0.mk H);(clear H)
             go_wp2
             go_meet
             case rel => exact ⟨_, (true), (by first | rfl | (simp; done) | (simp [*]; done)), H', ⟨by have := HK1.out; have := HK2.out; first | omega | exact Nat.le_refl _⟩, ⟨by (with_reducible repeat (first | apply Kd.V_alloc | apply Kd.V_drewN | apply Kd.V_drew)); exact HO_16.out⟩, ⟨by (with_reducible repeat first | apply Kd.R_alloc | apply Kd.R_drewN | apply Kd.R_drew); exact HO_18.out⟩, ⟨by (with_reducible repeat (first | apply Kd.V_alloc | apply Kd.V_drewN | apply Kd.V_drew)); exact HO_21.out⟩, ⟨by (with_reducible repeat first | apply Kd.R_alloc | apply Kd.R_drewN | apply Kd.R_drew); exact HO_232003.out⟩, ⟨by (with_reducible repeat first | refine blk_drewN ?_ _ | refine blk_drew ?_ | refine blk_alloc ?_ _); exact BK231.out⟩, ⟨by repeat (first | (with_reducible exact HR247_0.out) | (with_reducible refine Kd.C_alloc ?_ _) | (with_reducible refine Kd.C_drewN ?_ _) | (with_reducible refine Kd.C_drew ?_) | exact HR247_0.out)⟩, ⟨by repeat (first | (with_reducible first | exact HB.out | apply below_alloc | apply pw_below_drewN | apply below_drew1 | refine below_set ?_ GE231.out) | exact HB.out)⟩⟩
          case rest =>
           clear HC47
           try clear c2
           try clear p2
           try clear q2
           try clear hx2
           try clear c3
           try clear p3
           try clear q3
           try clear hx3
           try clear c4
           try clear p4
           try clear q4
           try clear c5
           try clear p6
           try clear c24
           try clear p24
           try clear q24
           try clear hx24
           try clear c25
           try clear p25
           try clear q25
           try clear hx25
           try clear c28
           try clear c28b0
           try clear c29
           try clear c30
           try clear c31
           try clear c32
           try clear c33
           try clear p34
           try clear q34
           try clear hx34
           try clear hf34
           try clear c35
           try clear p36
           try clear q36
           try clear p41
           try clear q41
           try clear p42
           try clear q42
           try clear c43
           try clear c43b0
           try clear c48
           try clear c49
           try clear c49b0
           try clear c50
           try clear c50b0
           try clear hx248_0
           try clear hx249_0
           try clear hx250_0
           try clear hx251_0
           try clear hx251_1
           try clear hx253_0
           try clear hx255_0
           try clear hx257_0
           try clear hx259_0
           try clear hx259_1
           try clear hx34_0
           try clear p248
           try clear p249
           try clear p250
           try clear p251
           try clear p253
           try clear p255
           try clear p257
           try clear p259
           try clear p34
           try clear p36
           try clear p41
           try clear p42
           try clear q248
           try clear q249
           try clear q250
           try clear q251
           try clear q253
           try clear q255
           try clear q257
           try clear q259
           try clear q34
           try clear q36
           try clear q41
           try clear q42
           obtain ⟨kq, x122_46, rfl, HA, HJ46, HO_16, HO_18, HO_21, HO_232003, BK231, HR247_0, HB⟩ := hcut
           cases kq with
           | zero => exact absurd HA.out (by simp [racewaylaw8_PlainFills.j2])
           | succ kj46 =>
            (have H := HA.out);(clear HA);(simp only [racewaylaw8_PlainFills.j2] at H)
            by_cases c51 : x122_46 = true
            ·(subst c51);(have H1 : (some false) = some r := by rw [if_pos rfl] at H; exact H);(clear H);(have H := H1);(clear H1);(exact absurd ((Option.some.inj H).trans hrT_.out) (by simp))
            ·(replace c51 := Bool.eq_false_iff.mpr c51);(subst c51);(have H1 : (racewaylaw8_PlainFills.l2 kj46 (wrap64 (1 + t235)) t239 x18_2 x20_1 ((rd_T61 t239 x20_1).f0) (x20_1 == 0) 0) = some r := by rw [if_neg (show ¬ (false = true) by decide)] at H; exact H);(clear H);(have H := H1);(clear H1);(have H' := Aside0.mk H);(clear H)
             go_wp2
             go_loopg [24, 25] kj46 (fun kq v24 v25 w' => ∃ (x24_4 : Bool) (x25_4 : Int), v24 = .bool x24_4 ∧ v25 = .int .i64 x25_4 ∧ Aside0 (racewaylaw8_PlainFills.l2 kq (wrap64 (1 + t235)) t239 x18_2 x20_1 ((rd_T61 t239 x20_1).f0) x24_4 x25_4 = some r) ∧ Aside0 (kq ≤ kj46) ∧ Aside0 (Kd.V k61 61 w' w.heap.size (fun k_ => some k_ ≠ (v244 : Value).ownBlock ∧ some k_ ≠ ((.slice Ao18 t228.length co18) : Value).ownBlock ∧ k_ ≠ gb231) (.slice (some ad247) t239.length co27) t239) ∧ Aside0 (Kd.R (Kd.int .i64) 2 w' w.heap.size (fun _ => True) v244 x18_2) ∧ Aside0 (Kd.V (Kd.int .i64) 3 w' w.heap.size (fun k_ => some k_ ≠ (v244 : Value).ownBlock ∧ some k_ ≠ ((.slice Ao18 t228.length co18) : Value).ownBlock ∧ k_ ≠ gb231) (.slice A247_0 ((rd_T61 t239 x20_1).f0).length c247_0) ((rd_T61 t239 x20_1).f0)) ∧ Aside0 (Kd.R k30 30 w' w.heap.size (fun _ => True) (.slice Ao18 t228.length co18) t228) ∧ Aside0 (w'.heap[gb231]? = some (.cells #[.int .i64 t225, .int .i64 t226, .int .i64 t227, (.slice Ao18 t228.length co18)] 26 (0, 0))) ∧ Aside0 (Kd.C (Kd.int .i64) w' A247_0 ((rd_T61 t239 x20_1).f0).length ((rd_T61 t239 x20_1).f0)) ∧ Aside0 (Below w.heap.size w w'))
             case atStart => exact ⟨((x20_1 == 0)), (0), (by first | rfl | (simp; done) | (simp [*]; done)), (by first | rfl | (simp; done) | (simp [*]; done)), H', ⟨Nat.le_refl _⟩, ⟨by (with_reducible repeat (first | apply Kd.V_alloc | apply Kd.V_drewN | apply Kd.V_drew)); exact HO_16.out⟩, ⟨by (with_reducible repeat first | apply Kd.R_alloc | apply Kd.R_drewN | apply Kd.R_drew); exact HO_18.out⟩, ⟨by (with_reducible repeat (first | apply Kd.V_alloc | apply Kd.V_drewN | apply Kd.V_drew)); exact HO_21.out⟩, ⟨by (with_reducible repeat first | apply Kd.R_alloc | apply Kd.R_drewN | apply Kd.R_drew); exact HO_232003.out⟩, ⟨by (with_reducible repeat first | refine blk_drewN ?_ _ | refine blk_drew ?_ | refine blk_alloc ?_ _); exact BK231.out⟩, ⟨by repeat (first | (with_reducible exact HR247_0.out) | (with_reducible refine Kd.C_alloc ?_ _) | (with_reducible refine Kd.C_drewN ?_ _) | (with_reducible refine Kd.C_drew ?_) | exact HR247_0.out)⟩, ⟨by repeat (first | (with_reducible first | exact HB.out | apply below_alloc | apply pw_below_drewN | apply below_drew1 | refine below_set ?_ GE231.out) | exact HB.out)⟩⟩
             case round =>
              clear H'
              try clear c2
              try clear p2
              try clear q2
              try clear hx2
              try clear c3
              try clear p3
              try clear q3
              try clear hx3
              try clear c4
              try clear p4
              try clear q4
              try clear c5
              try clear p6
              try clear c24
              try clear p24
              try clear q24
              try clear hx24
              try clear c25
              try clear p25
              try clear q25
              try clear hx25
              try clear c28
              try clear c28b0
              try clear c29
              try clear c30
              try clear c31
              try clear c32
              try clear c33
              try clear p34
              try clear q34
              try clear hx34
              try clear hf34
              try clear c35
              try clear p36
              try clear q36
              try clear p41
              try clear q41
              try clear p42
              try clear q42
              try clear c43
              try clear c43b0
              try clear c48
              try clear c49
              try clear c49b0
              try clear c50
              try clear c50b0
              try clear c51
              try clear hx248_0
              try clear hx249_0
              try clear hx250_0
              try clear hx251_0
              try clear hx251_1
              try clear hx253_0
              try clear hx255_0
              try clear hx257_0
              try clear hx259_0
              try clear hx259_1
              try clear hx34_0
              try clear p2
              try clear p24
              try clear p248
              try clear p249
              try clear p25
              try clear p250
              try clear p251
              try clear p253
              try clear p255
              try clear p257
              try clear p259
              try clear p3
              try clear p34
              try clear p36
              try clear p4
              try clear p41
              try clear p42
              try clear p6
              try clear q2
              try clear q24
              try clear q248
              try clear q249
              try clear q25
              try clear q250
              try clear q251
              try clear q253
              try clear q255
              try clear q257
              try clear q259
              try clear q3
              try clear q34
              try clear q36
              try clear q4
              try clear q41
              try clear q42
              obtain ⟨x24_4, x25_4, rfl, rfl, HA, HK4, HO_16, HO_18, HO_21, HO_232003, BK231, HR247_0, HB⟩ := hrel
              cases gk with
              | zero => exact absurd HA.out (by simp [racewaylaw8_PlainFills.l2])
              | succ k4 =>
               (have H := HA.out);(clear HA);(simp only [racewaylaw8_PlainFills.l2] at H);(have HC52 := Aside0.mk H);(clear H)
               go_upto_region 27 with (fail)
               go_cut [136] (fun v136 wc => ∃ (kq : Nat) (x136_51 : Bool), v136 = .bool x136_51 ∧ Aside0 (racewaylaw8_PlainFills.j4 kq (wrap64 (1 + t235)) t239 x18_2 x20_1 ((rd_T61 t239 x20_1).f0) x24_4 x25_4 x136_51 = some r) ∧ Aside0 (kq ≤ k4) ∧ Aside0 (Kd.V k61 61 wc w.heap.size (fun k_ => some k_ ≠ (v244 : Value).ownBlock ∧ some k_ ≠ ((.slice Ao18 t228.length co18) : Value).ownBlock ∧ k_ ≠ gb231) (.slice (some ad247) t239.length co27) t239) ∧ Aside0 (Kd.R (Kd.int .i64) 2 wc w.heap.size (fun _ => True) v244 x18_2) ∧ Aside0 (Kd.V (Kd.int .i64) 3 wc w.heap.size (fun k_ => some k_ ≠ (v244 : Value).ownBlock ∧ some k_ ≠ ((.slice Ao18 t228.length co18) : Value).ownBlock ∧ k_ ≠ gb231) (.slice A247_0 ((rd_T61 t239 x20_1).f0).length c247_0) ((rd_T61 t239 x20_1).f0)) ∧ Aside0 (Kd.R k30 30 wc w.heap.size (fun _ => True) (.slice Ao18 t228.length co18) t228) ∧ Aside0 (wc.heap[gb231]? = some (.cells #[.int .i64 t225, .int .i64 t226, .int .i64 t227, (.slice Ao18 t228.length co18)] 26 (0, 0))) ∧ Aside0 (Kd.C (Kd.int .i64) wc A247_0 ((rd_T61 t239 x20_1).f0).length ((rd_T61 t239 x20_1).f0)) ∧ Aside0 (Below w.heap.size w wc))
               case first =>
                (have H := HC52.out);(clear HC52)
                by_cases c53 : x20_1 > 0
                ·(rw [if_pos c53] at H);(have c53b0 : decide (0 < x20_1) = true := decide_eq_true c53);(clear c53);((first | rw [c53b0] | (simp only [i64_w, i32_w]; rw [c53b0]) | skip))
                 by_cases c54 : x25_4 < (((rd_T61 t239 x20_1).f0).length : Int)
                 ·(rw [if_pos c54] at H);(have c54b0 : decide (x25_4 < (((rd_T61 t239 x20_1).f0).length : Int)) = true := decide_eq_true c54);(clear c54)
                  as_aux_lemma =>
                   (have H' := Aside0.mk H);(clear H)
                   go_wp2
                   go_meet
                   case rel => exact ⟨_, (!x24_4), (by first | rfl | (simp; done) | (simp [*]; done)), H', ⟨by have := HK1.out; have := HK2.out; have := HJ46.out; have := HK4.out; first | omega | exact Nat.le_refl _⟩, ⟨by (with_reducible repeat (first | apply Kd.V_alloc | apply Kd.V_drewN | apply Kd.V_drew)); exact HO_16.out⟩, ⟨by (with_reducible repeat first | apply Kd.R_alloc | apply Kd.R_drewN | apply Kd.R_drew); exact HO_18.out⟩, ⟨by (with_reducible repeat (first | apply Kd.V_alloc | apply Kd.V_drewN | apply Kd.V_drew)); exact HO_21.out⟩, ⟨by (with_reducible repeat first | apply Kd.R_alloc | apply Kd.R_drewN | apply Kd.R_drew); exact HO_232003.out⟩, ⟨by (with_reducible repeat first | refine blk_drewN ?_ _ | refine blk_drew ?_ | refine blk_alloc ?_ _); exact BK231.out⟩, ⟨by repeat (first | (with_reducible exact HR247_0.out) | (with_reducible refine Kd.C_alloc ?_ _) | (with_reducible refine Kd.C_drewN ?_ _) | (with_reducible refine Kd.C_drew ?_) | exact HR247_0.out)⟩, ⟨by repeat (first | (with_reducible first | exact HB.out | apply below_alloc | apply pw_below_drewN | apply below_drew1 | refine below_set ?_ GE231.out) | exact HB.out)⟩⟩
                 ·(rw [if_neg c54] at H);(have c54b0 : decide (x25_4 < (((rd_T61 t239 x20_1).f0).length : Int)) = false := decide_eq_false c54);(clear c54)
                  as_aux_lemma =>
                   (have H' := Aside0.mk H);(clear H)
                   go_wp2
                   go_meet
                   case rel => exact ⟨_, (false), (by first | rfl | (simp; done) | (simp [*]; done)), H', ⟨by have := HK1.out; have := HK2.out; have := HJ46.out; have := HK4.out; first | omega | exact Nat.le_refl _⟩, ⟨by (with_reducible repeat (first | apply Kd.V_alloc | apply Kd.V_drewN | apply Kd.V_drew)); exact HO_16.out⟩, ⟨by (with_reducible repeat first | apply Kd.R_alloc | apply Kd.R_drewN | apply Kd.R_drew); exact HO_18.out⟩, ⟨by (with_reducible repeat (first | apply Kd.V_alloc | apply Kd.V_drewN | apply Kd.V_drew)); exact HO_21.out⟩, ⟨by (with_reducible repeat first | apply Kd.R_alloc | apply Kd.R_drewN | apply Kd.R_drew); exact HO_232003.out⟩, ⟨by (with_reducible repeat first | refine blk_drewN ?_ _ | refine blk_drew ?_ | refine blk_alloc ?_ _); exact BK231.out⟩, ⟨by repeat (first | (with_reducible exact HR247_0.out) | (with_reducible refine Kd.C_alloc ?_ _) | (with_reducible refine Kd.C_drewN ?_ _) | (with_reducible refine Kd.C_drew ?_) | exact HR247_0.out)⟩, ⟨by repeat (first | (with_reducible first | exact HB.out | apply below_alloc | apply pw_below_drewN | apply below_drew1 | refine below_set ?_ GE231.out) | exact HB.out)⟩⟩
                ·(rw [if_neg c53] at H);(have c53b0 : decide (0 < x20_1) = false := decide_eq_false c53);(clear c53);((first | rw [c53b0] | (simp only [i64_w, i32_w]; rw [c53b0]) | skip))
                 as_aux_lemma =>
                  (have H' := Aside0.mk H);(clear H)
                  go_wp2
                  go_meet
                  case rel => exact ⟨_, (false), (by first | rfl | (simp; done) | (simp [*]; done)), H', ⟨by have := HK1.out; have := HK2.out; have := HJ46.out; have := HK4.out; first | omega | exact Nat.le_refl _⟩, ⟨by (with_reducible repeat (first | apply Kd.V_alloc | apply Kd.V_drewN | apply Kd.V_drew)); exact HO_16.out⟩, ⟨by (with_reducible repeat first | apply Kd.R_alloc | apply Kd.R_drewN | apply Kd.R_drew); exact HO_18.out⟩, ⟨by (with_reducible repeat (first | apply Kd.V_alloc | apply Kd.V_drewN | apply Kd.V_drew)); exact HO_21.out⟩, ⟨by (with_reducible repeat first | apply Kd.R_alloc | apply Kd.R_drewN | apply Kd.R_drew); exact HO_232003.out⟩, ⟨by (with_reducible repeat first | refine blk_drewN ?_ _ | refine blk_drew ?_ | refine blk_alloc ?_ _); exact BK231.out⟩, ⟨by repeat (first | (with_reducible exact HR247_0.out) | (with_reducible refine Kd.C_alloc ?_ _) | (with_reducible refine Kd.C_drewN ?_ _) | (with_reducible refine Kd.C_drew ?_) | exact HR247_0.out)⟩, ⟨by repeat (first | (with_reducible first | exact HB.out | apply below_alloc | apply pw_below_drewN | apply below_drew1 | refine below_set ?_ GE231.out) | exact HB.out)⟩⟩
               case rest =>
                clear HC52
                try clear c2
                try clear p2
                try clear q2
                try clear hx2
                try clear c3
                try clear p3
                try clear q3
                try clear hx3
                try clear c4
                try clear p4
                try clear q4
                try clear c5
                try clear p6
                try clear c24
                try clear p24
                try clear q24
                try clear hx24
                try clear c25
                try clear p25
                try clear q25
                try clear hx25
                try clear c28
                try clear c28b0
                try clear c29
                try clear c30
                try clear c31
                try clear c32
                try clear c33
                try clear p34
                try clear q34
                try clear hx34
                try clear hf34
                try clear c35
                try clear p36
                try clear q36
                try clear p41
                try clear q41
                try clear p42
                try clear q42
                try clear c43
                try clear c43b0
                try clear c48
                try clear c49
                try clear c49b0
                try clear c50
                try clear c50b0
                try clear c51
                try clear c53
                try clear c53b0
                try clear c54
                try clear c54b0
                try clear hx248_0
                try clear hx249_0
                try clear hx250_0
                try clear hx251_0
                try clear hx251_1
                try clear hx253_0
                try clear hx255_0
                try clear hx257_0
                try clear hx259_0
                try clear hx259_1
                try clear hx34_0
                try clear p2
                try clear p24
                try clear p248
                try clear p249
                try clear p25
                try clear p250
                try clear p251
                try clear p253
                try clear p255
                try clear p257
                try clear p259
                try clear p3
                try clear p34
                try clear p36
                try clear p4
                try clear p41
                try clear p42
                try clear p6
                try clear q2
                try clear q24
                try clear q248
                try clear q249
                try clear q25
                try clear q250
                try clear q251
                try clear q253
                try clear q255
                try clear q257
                try clear q259
                try clear q3
                try clear q34
                try clear q36
                try clear q4
                try clear q41
                try clear q42
                obtain ⟨kq, x136_51, rfl, HA, HJ51, HO_16, HO_18, HO_21, HO_232003, BK231, HR247_0, HB⟩ := hcut
                cases kq with
                | zero => exact absurd HA.out (by simp [racewaylaw8_PlainFills.j4])
                | succ kj51 =>
                 (have H := HA.out);(clear HA);(simp only [racewaylaw8_PlainFills.j4] at H)
                 by_cases c55 : x136_51 = true
                 ·(subst c55);(have H1 : (if 0 ≤ (wrap64 (x20_1 - 1)) then (if (wrap64 (x20_1 - 1)) < (t239.length : Int) then (if 0 ≤ x25_4 then (if x25_4 < (((rd_T61 t239 (wrap64 (x20_1 - 1))).f0).length : Int) then (if x25_4 < (((rd_T61 t239 x20_1).f0).length : Int) then (if (rd ((rd_T61 t239 x20_1).f0) x25_4) < (rd ((rd_T61 t239 (wrap64 (x20_1 - 1))).f0) x25_4) then (some false) else (racewaylaw8_PlainFills.l2 kj51 (wrap64 (1 + t235)) t239 x18_2 x20_1 ((rd_T61 t239 x20_1).f0) (decide ((rd ((rd_T61 t239 x20_1).f0) x25_4) > (rd ((rd_T61 t239 (wrap64 (x20_1 - 1))).f0) x25_4))) (wrap64 (x25_4 + 1)))) else (none)) else (none)) else (none)) else (none)) else (none)) = some r := by rw [if_pos rfl] at H; exact H);(clear H);(have H := H1);(clear H1);(obtain ⟨ji56, hji56⟩ : ∃ j_ : Int, (wrap64 (x20_1 - 1)) = j_ := ⟨_, rfl⟩);(replace H : (if 0 ≤ (ji56) then (if (ji56) < (t239.length : Int) then (if 0 ≤ x25_4 then (if x25_4 < (((rd_T61 t239 (ji56)).f0).length : Int) then (if x25_4 < (((rd_T61 t239 x20_1).f0).length : Int) then (if (rd ((rd_T61 t239 x20_1).f0) x25_4) < (rd ((rd_T61 t239 (ji56)).f0) x25_4) then (some false) else (racewaylaw8_PlainFills.l2 kj51 (wrap64 (1 + t235)) t239 x18_2 x20_1 ((rd_T61 t239 x20_1).f0) (decide ((rd ((rd_T61 t239 x20_1).f0) x25_4) > (rd ((rd_T61 t239 (ji56)).f0) x25_4))) (wrap64 (x25_4 + 1)))) else (none)) else (none)) else (none)) else (none)) else (none)) = some r := by first | (rw [hji56] at H; exact H) | (simp only [hji56] at H ⊢; exact H));(have hji56w : (IntKind.i64.wrap (x20_1 - 1)) = ji56 := (i64_w _).trans hji56)
                  by_cases c57 : 0 ≤ (ji56)
                  ·(rw [if_pos c57] at H);(have c57b0 : decide (0 ≤ (ji56)) = true := decide_eq_true c57);(clear c57)
                   by_cases c58 : (ji56) < (t239.length : Int)
                   ·(rw [if_pos c58] at H);(have c58b0 : decide ((ji56) < (t239.length : Int)) = true := decide_eq_true c58);(clear c58)
                    by_cases c59 : 0 ≤ x25_4
                    ·(rw [if_pos c59] at H);(have c59b0 : decide (0 ≤ x25_4) = true := decide_eq_true c59);(clear c59)
                     by_cases c60 : x25_4 < (((rd_T61 t239 (ji56)).f0).length : Int)
                     ·(rw [if_pos c60] at H);(have c60b0 : decide (x25_4 < (((rd_T61 t239 (ji56)).f0).length : Int)) = true := decide_eq_true c60);(clear c60)
                      by_cases c61 : x25_4 < (((rd_T61 t239 x20_1).f0).length : Int)
                      ·(rw [if_pos c61] at H);(have c61b0 : decide (x25_4 < (((rd_T61 t239 x20_1).f0).length : Int)) = true := decide_eq_true c61);(clear c61)
                       by_cases c62 : (rd ((rd_T61 t239 x20_1).f0) x25_4) < (rd ((rd_T61 t239 (ji56)).f0) x25_4)
                       ·(rw [if_pos c62] at H);(have c62b0 : decide ((rd ((rd_T61 t239 x20_1).f0) x25_4) < (rd ((rd_T61 t239 (ji56)).f0) x25_4)) = true := decide_eq_true c62);(clear c62);(exact absurd ((Option.some.inj H).trans hrT_.out) (by simp))
                       ·(rw [if_neg c62] at H);(have c62b0 : decide ((rd ((rd_T61 t239 x20_1).f0) x25_4) < (rd ((rd_T61 t239 (ji56)).f0) x25_4)) = false := decide_eq_false c62);(clear c62)
                        as_aux_lemma =>
                         (have H' := Aside0.mk H);(clear H);(have p260 : 0 ≤ ((ji56) : Int) := of_decide_eq_true (by first | (with_reducible assumption) | assumption));(have q260 : (ji56) < (t239.length : Int) := of_decide_eq_true (by first | (with_reducible assumption) | assumption));(obtain ⟨ad260, A260_0, c260_0, e260, hx260_0, hx260_1, hl260_0, hi260_0⟩ := at_T61 (Kd.V_reads' HO_16.out).2.2 (ji56) p260 q260);(obtain rfl : ad247 = ad260 := (by injection e260));(obtain ⟨ce260, hce260, hMe260, hcc260⟩ := Kd.V_get HO_16.out z61 (ji56) p260 (by first | exact q260 | exact of_decide_eq_true (by first | (with_reducible assumption) | assumption) | (have e_ := (Kd.V_reads' HO_16.out).1; omega)));(obtain ⟨ua260_0, uc260_0, rfl, ul260_0, ge260_0⟩ := k61_openF hMe260);(have hv260_0 := hcc260 0 _ rfl);(rw [Nat.add_zero] at hv260_0);(replace hv260_0 := Option.some.inj (hv260_0.symm.trans hx260_0));(injection hv260_0 with hva_ hvn_ hvc_);(rw [hva_] at ge260_0);(rw [hvc_] at ul260_0);(have HL260_0 := Aside0.mk (show Kd.V (Kd.int .i64) 3 _ w.heap.size _ _ ((rd_T61 t239 (ji56)).f0) from Kd.V_mk ul260_0 ge260_0));(clear hva_ hvn_ hvc_ ge260_0 ul260_0);(clear hcc260 hce260);(have HR260_0 := Aside0.mk hi260_0);(have HC260_0 := Aside0.mk hl260_0);(clear hi260_0 hl260_0);(replace p260 := eq_true p260);(replace q260 := eq_true q260);(have p261 : 0 ≤ (x25_4 : Int) := of_decide_eq_true (by first | (with_reducible assumption) | assumption));(have q261 : x25_4 < (((rd_T61 t239 (ji56)).f0).length : Int) := of_decide_eq_true (by first | (with_reducible assumption) | assumption));(obtain ⟨ad261, e261, hx261_0⟩ := Kd.at_int (by repeat (first | (with_reducible exact HR260_0.out) | (with_reducible refine Kd.C_alloc ?_ _) | (with_reducible refine Kd.C_drewN ?_ _) | (with_reducible refine Kd.C_drew ?_) | exact HR260_0.out)) x25_4 p261 q261);(cases e261);(replace p261 := eq_true p261);(replace q261 := eq_true q261);(have p262 : 0 ≤ (x25_4 : Int) := of_decide_eq_true (by first | (with_reducible assumption) | assumption));(have q262 : x25_4 < (((rd_T61 t239 x20_1).f0).length : Int) := of_decide_eq_true (by first | (with_reducible assumption) | assumption));(obtain ⟨ad262, e262, hx262_0⟩ := Kd.at_int (Kd.V_reads' HO_21.out).2.2 x25_4 p262 q262);(cases e262);(replace p262 := eq_true p262);(replace q262 := eq_true q262);(have p263 : 0 ≤ (x25_4 : Int) := of_decide_eq_true (by first | (with_reducible assumption) | assumption));(have q263 : x25_4 < (((rd_T61 t239 x20_1).f0).length : Int) := of_decide_eq_true (by first | (with_reducible assumption) | assumption));(obtain ⟨ad263, e263, hx263_0⟩ := Kd.at_int (Kd.V_reads' HO_21.out).2.2 x25_4 p263 q263);(obtain rfl : ad262 = ad263 := (by injection e263));(replace p263 := eq_true p263);(replace q263 := eq_true q263)
                         go_wp2
                         go_roundg kj51
                         case measure => have := HK1.out; have := HK2.out; have := HJ46.out; have := HK4.out; have := HJ51.out; omega
                         case rel => exact ⟨(decide ((rd ((rd_T61 t239 x20_1).f0) x25_4) > (rd ((rd_T61 t239 (ji56)).f0) x25_4))), (wrap64 (x25_4 + 1)), (by first | rfl | (simp; done) | (simp only [← hji56] <;> (first | rfl | simp)) | (simp [*]; done)), (by first | rfl | (simp; done) | (simp [*]; done)), H', ⟨by have := HK1.out; have := HK2.out; have := HJ46.out; have := HK4.out; have := HJ51.out; omega⟩, ⟨by (with_reducible repeat (first | apply Kd.V_alloc | apply Kd.V_drewN | apply Kd.V_drew)); exact HO_16.out⟩, ⟨by (with_reducible repeat first | apply Kd.R_alloc | apply Kd.R_drewN | apply Kd.R_drew); exact HO_18.out⟩, ⟨by (with_reducible repeat (first | apply Kd.V_alloc | apply Kd.V_drewN | apply Kd.V_drew)); exact HO_21.out⟩, ⟨by (with_reducible repeat first | apply Kd.R_alloc | apply Kd.R_drewN | apply Kd.R_drew); exact HO_232003.out⟩, ⟨by (with_reducible repeat first | refine blk_drewN ?_ _ | refine blk_drew ?_ | refine blk_alloc ?_ _); exact BK231.out⟩, ⟨by repeat (first | (with_reducible exact HR247_0.out) | (with_reducible refine Kd.C_alloc ?_ _) | (with_reducible refine Kd.C_drewN ?_ _) | (with_reducible refine Kd.C_drew ?_) | exact HR247_0.out)⟩, ⟨by repeat (first | (with_reducible first | exact HB.out | apply below_alloc | apply pw_below_drewN | apply below_drew1 | refine below_set ?_ GE231.out) | exact HB.out)⟩⟩
                      ·(rw [if_neg c61] at H);(exact absurd H (by simp))
                     ·(rw [if_neg c60] at H);(exact absurd H (by simp))
                    ·(rw [if_neg c59] at H);(exact absurd H (by simp))
                   ·(rw [if_neg c58] at H);(exact absurd H (by simp))
                  ·(rw [if_neg c57] at H);(exact absurd H (by simp))
                 ·(replace c55 := Bool.eq_false_iff.mpr c55);(subst c55);(have H1 : (if x24_4 = true then (racewaylaw8_PlainFills.l0 kj51 (wrap64 (1 + t235)) t239 x18_2 (wrap64 (x20_1 + 1))) else (some false)) = some r := by rw [if_neg (show ¬ (false = true) by decide)] at H; exact H);(clear H);(have H := H1);(clear H1)
                  by_cases c63 : x24_4 = true
                  ·(subst c63);(have H1 : (racewaylaw8_PlainFills.l0 kj51 (wrap64 (1 + t235)) t239 x18_2 (wrap64 (x20_1 + 1))) = some r := by rw [if_pos rfl] at H; exact H);(clear H);(have H := H1);(clear H1)
                   as_aux_lemma =>
                    (have H' := Aside0.mk H);(clear H)
                    go_wp2
                    go_roundg kj51
                    case measure => have := HK1.out; have := HK2.out; have := HJ46.out; have := HK4.out; have := HJ51.out; omega
                    case rel => exact ⟨(x18_2), (wrap64 (x20_1 + 1)), (by first | rfl | (simp; done) | (simp [*]; done)), H', ⟨by have := HK1.out; have := HK2.out; have := HJ46.out; have := HK4.out; have := HJ51.out; omega⟩, ⟨by (with_reducible repeat (first | apply Kd.V_alloc | apply Kd.V_drewN | apply Kd.V_drew)); exact HO_16.out⟩, ⟨by (with_reducible repeat first | apply Kd.R_alloc | apply Kd.R_drewN | apply Kd.R_drew); exact HO_18.out⟩, ⟨by (with_reducible repeat first | apply Kd.R_alloc | apply Kd.R_drewN | apply Kd.R_drew); exact HO_232003.out⟩, ⟨by (with_reducible repeat first | refine blk_drewN ?_ _ | refine blk_drew ?_ | refine blk_alloc ?_ _); exact BK231.out⟩, ⟨by repeat (first | (with_reducible first | exact HB.out | apply below_alloc | apply pw_below_drewN | apply below_drew1 | refine below_set ?_ GE231.out) | exact HB.out)⟩⟩
                  ·(replace c63 := Bool.eq_false_iff.mpr c63);(subst c63);(have H1 : (some false) = some r := by rw [if_neg (show ¬ (false = true) by decide)] at H; exact H);(clear H);(have H := H1);(clear H1);(exact absurd ((Option.some.inj H).trans hrT_.out) (by simp))
      ·(rw [if_neg c26] at H);(exact absurd H (by simp))
     ·(rw [if_neg c25] at H);(have c25b0 : decide (x20_1 < (t239.length : Int)) = false := decide_eq_false c25);(clear c25)
      as_aux_lemma =>
       (obtain rfl := Option.some.inj H);(obtain ⟨Ao64, co64, eo64⟩ := Kd.V_slice HO_16.out);(subst eo64)
       go_wp2
       go_ret
       exact ⟨by first | rfl | (simp [errW_none, errW_some] <;> rfl) | (simp [*, errW_none, errW_some] <;> rfl), by repeat (first | (with_reducible first | exact HB.out | apply below_alloc | apply pw_below_drewN | apply below_drew1 | refine below_set ?_ GE231.out) | exact HB.out)⟩
  ·rw [if_neg c12] at H
   (have c12b0 : (t242 == 0) = false := beq_eq_false_iff_ne.mpr c12);(have c12b1 : (t242 != 0) = true := bne_iff_ne.mpr c12);(exact absurd ((Option.some.inj H).trans hrT_.out) (by simp))
 ·replace c7 := Bool.eq_false_iff.mpr c7
  subst c7
  have H1 : (some false) = some r := by rw [if_neg (show ¬ (false = true) by decide)] at H; exact H
  clear H
  have H := H1
  clear H1
  exact absurd ((Option.some.inj H).trans hrT_.out) (by simp)
/-- THE ONE PURE STATEMENT of racewaylaw8_PlainFills. -/
def racewaylaw8_PlainFills.Pure : Prop := ∀ (a0 : Int) (a1 : Int) (l2 : List (S91)) (l3 : List Int) (a4 : Int), (Lit.int .i64 a0).wf = true → (Lit.int .i64 a1).wf = true → l2.length ≤ maxLen → (∀ x ∈ l2, (Lit.int .i64 x.f0).wf = true ∧ (Lit.int .i64 x.f1).wf = true ∧ (Lit.int .i64 x.f2).wf = true) → l3.length ≤ maxLen → l3.length * 8 ≤ 140737488351232 → (∀ x ∈ l3, (Lit.int .i64 x).wf = true) → (Lit.int .i64 a4).wf = true → ∃ k, racewaylaw8_PlainFills.f k a0 a1 l2 l3 a4 = some true
theorem racewaylaw8_PlainFills.walk (P : racewaylaw8_PlainFills.Pure) (a0 : Int) (a1 : Int) (A2 : Option Addr) (c2 : Nat) (l2 : List (S91)) (A3 : Option Addr) (c3 : Nat) (l3 : List Int) (a4 : Int) (w : World) (w0 : (Lit.int .i64 a0).wf = true) (w1 : (Lit.int .i64 a1).wf = true) (hr2 : Kd.C k91 w A2 l2.length l2) (hc2 : l2.length ≤ c2) (hm2 : l2.length ≤ maxLen) (hw2 : (∀ x ∈ l2, (Lit.int .i64 x.f0).wf = true ∧ (Lit.int .i64 x.f1).wf = true ∧ (Lit.int .i64 x.f2).wf = true)) (hr3 : Kd.C (Kd.int .i64) w A3 l3.length l3) (hc3 : l3.length ≤ c3) (hm3 : l3.length ≤ maxLen) (y3 : l3.length * 8 ≤ 140737488351232) (hw3 : (∀ x ∈ l3, (Lit.int .i64 x).wf = true)) (w4 : (Lit.int .i64 a4).wf = true) :
  Calls Try.prog 8 #[.int .i64 a0, .int .i64 a1, .slice A2 l2.length c2, .slice A3 l3.length c3, .int .i64 a4] w fun e w' => e = .returned (.bool true) ∧ Below w.heap.size w w' := by
 obtain ⟨k, h⟩ := P a0 a1 l2 l3 a4 w0 w1 hm2 hw2 hm3 y3 hw3 w4
 refine (racewaylaw8_PlainFills.calls k a0 a1 _ _ l2 _ _ l3 a4 true w hr2 hc2 hr3 hc3 h ⟨rfl⟩).mono ?_
 rintro e w' ⟨rfl, hd⟩
 exact ⟨rfl, hd⟩
end Go.Proofs.Ytdiaedecnfbgdaa.PPlainFills
