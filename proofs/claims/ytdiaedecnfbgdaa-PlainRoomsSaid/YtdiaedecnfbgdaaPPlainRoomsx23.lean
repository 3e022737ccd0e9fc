/- For the law PlainRooms, for every input: printed by a program (wip/myprint), contracts by hand where it says MANUAL. -/
-- slim
import Derived.Test.YtdiaedecnfbgdaaPPlainRoomsx0
import Derived.Test.YtdiaedecnfbgdaaPPlainRoomsx1
import Derived.Test.YtdiaedecnfbgdaaPPlainRoomsx18
import Derived.Test.YtdiaedecnfbgdaaPPlainRoomsx19
import Derived.Test.YtdiaedecnfbgdaaPPlainRoomsx20
import Derived.Test.YtdiaedecnfbgdaaPPlainRoomsx21
import Derived.Test.YtdiaedecnfbgdaaPPlainRoomsx22
namespace Go.Proofs.Ytdiaedecnfbgdaa.PPlainRooms
open Go.RowKit Go.Proofs.YtdiaedecnfbgdaaW.PrintWords Go.Proofs.YtdiaedecnfbgdaaW.PrintLast Go.Proofs.YtdiaedecnfbgdaaW.PrintMore
attribute [local go_sem] max2_int min2_int max_two min_two max_three min_three max_four min_four
set_option linter.unusedVariables false
set_option linter.unusedSimpArgs false
/-! ### racewaylaw8_PlainRooms: function 10 -/
mutual
def racewaylaw8_PlainRooms.j0 : Nat → Int → Int → List (S61) → List (S61) → Bool → Option (Bool)
 | 0, _, _, _, _, _ => none
 | k + 1, x16, x18, x21, x24, x110 => if x110 = true then (some false) else (racewaylaw8_PlainRooms.l0 k x16 x18 x21 x24 0)
def racewaylaw8_PlainRooms.l0 : Nat → Int → Int → List (S61) → List (S61) → Int → Option (Bool)
 | 0, _, _, _, _, _ => none
 | k + 1, x16, x18, x21, x24, x29 => if x29 < (x24.length : Int) then (if 0 ≤ x29 then (if (((rd_T61 x24 x29).f0).length : Int) ≤ x16 then (some false) else (racewaylaw8_PlainRooms.l0 k x16 x18 x21 x24 (wrap64 (x29 + 1)))) else (none)) else (if x18 < 0 then (if (x21.length : Int) > 0 then (if x16 ≥ 0 then (some true) else (some false)) else (if x16 ≥ 0 then (some false) else (some true))) else (if x16 ≥ 0 then (if x16 ≤ x18 then (if (x21.length : Int) > 0 then (some true) else (some false)) else (some false)) else (some false)))
end
def racewaylaw8_PlainRooms.f (k : Nat) (a0 : Int) (a1 : Int) (l2 : List (S91)) (a3 : Int) (a4 : Int) : Option (Bool) := (racewaylaw8_shown.f k).bind fun t194 => (if t194 = true then ((racewaylaw8_made.f k a0 a1 l2).bind fun bt195 => (if 0 ≤ (bt195.2.2.2.length : Int) then (if ((bt195.2.2.2.length : Int) : Int).toNat ≤ 35184372088832 then ((some (List.replicate ((bt195.2.2.2.length : Int) : Int).toNat 0 : List Int)).bind fun y202 => ((racewaylaw8_pick.f a3 20).bind fun t205 => ((racewaylaw8_pick.f a4 20).bind fun t206 => ((level_Deep.f k bt195.1 bt195.2.1 bt195.2.2.1 bt195.2.2.2 y202 (wrap64 (1 + (mn t205 t206)))).bind fun bt207 => ((level_Deep.f k bt195.1 bt195.2.1 bt195.2.2.1 bt195.2.2.2 y202 (wrap64 (1 + (mx t205 t206)))).bind fun bt209 => ((plain_Block.f k bt195.1 bt195.2.1 bt195.2.2.1 bt195.2.2.2 y202 (wrap64 (1 + (mn t205 t206)))).bind fun bt211 => ((plain_Block.f k bt195.1 bt195.2.1 bt195.2.2.1 bt195.2.2.2 bt211.1 (wrap64 (1 + (mx t205 t206)))).bind fun bt218 => ((plain_Block.f k bt195.1 bt195.2.1 bt195.2.2.1 bt195.2.2.2 y202 4611686018427387904).bind fun bt225 => (if bt211.2.2 = 0 then (if bt218.2.2 = 0 then (if bt225.2.2 = 0 then (if (bt225.2.1.length : Int) = 0 then ((racewayref5_Same.f k bt225.1 y202).bind fun t232 => (racewaylaw8_PlainRooms.j0 k bt207.1 bt209.1 bt211.2.1 bt218.2.1 (!t232))) else (racewaylaw8_PlainRooms.j0 k bt207.1 bt209.1 bt211.2.1 bt218.2.1 true)) else (racewaylaw8_PlainRooms.j0 k bt207.1 bt209.1 bt211.2.1 bt218.2.1 true)) else (racewaylaw8_PlainRooms.j0 k bt207.1 bt209.1 bt211.2.1 bt218.2.1 true)) else (racewaylaw8_PlainRooms.j0 k bt207.1 bt209.1 bt211.2.1 bt218.2.1 true)))))))))) else (none)) else (none))) else (some false))
theorem racewaylaw8_PlainRooms.mono_l : ∀ k, (∀ y0 y1 y2 y3 y4, LeO (racewaylaw8_PlainRooms.j0 k y0 y1 y2 y3 y4) (racewaylaw8_PlainRooms.j0 (k + 1) y0 y1 y2 y3 y4)) ∧ (∀ y0 y1 y2 y3 y4, LeO (racewaylaw8_PlainRooms.l0 k y0 y1 y2 y3 y4) (racewaylaw8_PlainRooms.l0 (k + 1) y0 y1 y2 y3 y4))
 | 0 => ⟨fun _ _ _ _ _ r h => by simp [racewaylaw8_PlainRooms.j0] at h, fun _ _ _ _ _ r h => by simp [racewaylaw8_PlainRooms.l0] at h⟩
 | k + 1 => by
  obtain ⟨ih0, ih1⟩ := racewaylaw8_PlainRooms.mono_l k
  refine ⟨?_, ?_⟩
  ·intro y0 y1 y2 y3 y4
   unfold racewaylaw8_PlainRooms.j0
   repeat' first
   | (with_reducible exact ih0 _ _ _ _ _)
   | (with_reducible exact ih1 _ _ _ _ _)
   | (with_reducible exact level_Deep.mono _ _ _ _ _ _ _)
   | (with_reducible exact plain_Block.mono _ _ _ _ _ _ _)
   | (with_reducible exact racewaylaw8_made.mono _ _ _ _)
   | (with_reducible exact racewaylaw8_shown.mono _)
   | (with_reducible exact racewayref5_Same.mono _ _ _)
   | (with_reducible exact LeO.refl _)
   | (with_reducible exact LeO.none _)
   | (with_reducible refine LeO.ite ?_ ?_)
   | (with_reducible refine LeO.bind ?_ (fun _ => ?_))
   | exact ih0 _ _ _ _ _
   | exact ih1 _ _ _ _ _
   | exact level_Deep.mono _ _ _ _ _ _ _
   | exact plain_Block.mono _ _ _ _ _ _ _
   | exact racewaylaw8_made.mono _ _ _ _
   | exact racewaylaw8_shown.mono _
   | exact racewayref5_Same.mono _ _ _
   | exact LeO.none _
   | refine LeO.ite ?_ ?_
   | refine LeO.bind ?_ (fun _ => ?_)
  ·intro y0 y1 y2 y3 y4
   unfold racewaylaw8_PlainRooms.l0
   repeat' first
   | (with_reducible exact ih0 _ _ _ _ _)
   | (with_reducible exact ih1 _ _ _ _ _)
   | (with_reducible exact level_Deep.mono _ _ _ _ _ _ _)
   | (with_reducible exact plain_Block.mono _ _ _ _ _ _ _)
   | (with_reducible exact racewaylaw8_made.mono _ _ _ _)
   | (with_reducible exact racewaylaw8_shown.mono _)
   | (with_reducible exact racewayref5_Same.mono _ _ _)
   | (with_reducible exact LeO.refl _)
   | (with_reducible exact LeO.none _)
   | (with_reducible refine LeO.ite ?_ ?_)
   | (with_reducible refine LeO.bind ?_ (fun _ => ?_))
   | exact ih0 _ _ _ _ _
   | exact ih1 _ _ _ _ _
   | exact level_Deep.mono _ _ _ _ _ _ _
   | exact plain_Block.mono _ _ _ _ _ _ _
   | exact racewaylaw8_made.mono _ _ _ _
   | exact racewaylaw8_shown.mono _
   | exact racewayref5_Same.mono _ _ _
   | exact LeO.none _
   | refine LeO.ite ?_ ?_
   | refine LeO.bind ?_ (fun _ => ?_)
theorem racewaylaw8_PlainRooms.mono : ∀ a0 a1 a2 a3 a4 k, LeO (racewaylaw8_PlainRooms.f k a0 a1 a2 a3 a4) (racewaylaw8_PlainRooms.f (k + 1) a0 a1 a2 a3 a4) := by
 intro a0 a1 a2 a3 a4 k
 obtain ⟨ih0, ih1⟩ := racewaylaw8_PlainRooms.mono_l k
 unfold racewaylaw8_PlainRooms.f
 repeat' first
   | (with_reducible exact ih0 _ _ _ _ _)
   | (with_reducible exact ih1 _ _ _ _ _)
   | (with_reducible exact level_Deep.mono _ _ _ _ _ _ _)
   | (with_reducible exact plain_Block.mono _ _ _ _ _ _ _)
   | (with_reducible exact racewaylaw8_made.mono _ _ _ _)
   | (with_reducible exact racewaylaw8_shown.mono _)
   | (with_reducible exact racewayref5_Same.mono _ _ _)
   | (with_reducible exact LeO.refl _)
   | (with_reducible exact LeO.none _)
   | (with_reducible refine LeO.ite ?_ ?_)
   | (with_reducible refine LeO.bind ?_ (fun _ => ?_))
   | exact ih0 _ _ _ _ _
   | exact ih1 _ _ _ _ _
   | exact level_Deep.mono _ _ _ _ _ _ _
   | exact plain_Block.mono _ _ _ _ _ _ _
   | exact racewaylaw8_made.mono _ _ _ _
   | exact racewaylaw8_shown.mono _
   | exact racewayref5_Same.mono _ _ _
   | exact LeO.none _
   | refine LeO.ite ?_ ?_
   | refine LeO.bind ?_ (fun _ => ?_)
set_option maxHeartbeats 8000000 in
set_option maxRecDepth 100000 in
theorem racewaylaw8_PlainRooms.calls (k : Nat) (a0 : Int) (a1 : Int) (A2 : Option Addr) (c2 : Nat) (l2 : List (S91)) (a3 : Int) (a4 : Int) (r : Bool) (w : World) (hr2 : Kd.C k91 w A2 l2.length l2) (hc2 : l2.length ≤ c2) (h : racewaylaw8_PlainRooms.f k a0 a1 l2 a3 a4 = some r) (hrT_ : Aside0 (r = true)) :
  Calls Try.prog 10 #[.int .i64 a0, .int .i64 a1, .slice A2 l2.length c2, .int .i64 a3, .int .i64 a4] w fun e w' => e = .returned (.bool r) ∧ Below w.heap.size w w' := by
 have hu26 := Try.underlying26
 have HR2 := Aside0.mk hr2
 have HC2 := Aside0.mk hc2
 clear hr2 hc2
 have HB := Aside0.mk (Below.refl w.heap.size w)
 have H : ((racewaylaw8_shown.f k).bind fun t194 => (if t194 = true then ((racewaylaw8_made.f k a0 a1 l2).bind fun bt195 => (if 0 ≤ (bt195.2.2.2.length : Int) then (if ((bt195.2.2.2.length : Int) : Int).toNat ≤ 35184372088832 then ((some (List.replicate ((bt195.2.2.2.length : Int) : Int).toNat 0 : List Int)).bind fun y202 => ((racewaylaw8_pick.f a3 20).bind fun t205 => ((racewaylaw8_pick.f a4 20).bind fun t206 => ((level_Deep.f k bt195.1 bt195.2.1 bt195.2.2.1 bt195.2.2.2 y202 (wrap64 (1 + (mn t205 t206)))).bind fun bt207 => ((level_Deep.f k bt195.1 bt195.2.1 bt195.2.2.1 bt195.2.2.2 y202 (wrap64 (1 + (mx t205 t206)))).bind fun bt209 => ((plain_Block.f k bt195.1 bt195.2.1 bt195.2.2.1 bt195.2.2.2 y202 (wrap64 (1 + (mn t205 t206)))).bind fun bt211 => ((plain_Block.f k bt195.1 bt195.2.1 bt195.2.2.1 bt195.2.2.2 bt211.1 (wrap64 (1 + (mx t205 t206)))).bind fun bt218 => ((plain_Block.f k bt195.1 bt195.2.1 bt195.2.2.1 bt195.2.2.2 y202 4611686018427387904).bind fun bt225 => (if bt211.2.2 = 0 then (if bt218.2.2 = 0 then (if bt225.2.2 = 0 then (if (bt225.2.1.length : Int) = 0 then ((racewayref5_Same.f k bt225.1 y202).bind fun t232 => (racewaylaw8_PlainRooms.j0 k bt207.1 bt209.1 bt211.2.1 bt218.2.1 (!t232))) else (racewaylaw8_PlainRooms.j0 k bt207.1 bt209.1 bt211.2.1 bt218.2.1 true)) else (racewaylaw8_PlainRooms.j0 k bt207.1 bt209.1 bt211.2.1 bt218.2.1 true)) else (racewaylaw8_PlainRooms.j0 k bt207.1 bt209.1 bt211.2.1 bt218.2.1 true)) else (racewaylaw8_PlainRooms.j0 k bt207.1 bt209.1 bt211.2.1 bt218.2.1 true)))))))))) else (none)) else (none))) else (some false))) = some r := h
 clear h
 replace H := Option.bind_eq_some_iff.mp H
 obtain ⟨t194, A60, H⟩ := H
 replace H : (if t194 = true then ((racewaylaw8_made.f k a0 a1 l2).bind fun bt195 => (if 0 ≤ (bt195.2.2.2.length : Int) then (if ((bt195.2.2.2.length : Int) : Int).toNat ≤ 35184372088832 then ((some (List.replicate ((bt195.2.2.2.length : Int) : Int).toNat 0 : List Int)).bind fun y202 => ((racewaylaw8_pick.f a3 20).bind fun t205 => ((racewaylaw8_pick.f a4 20).bind fun t206 => ((level_Deep.f k bt195.1 bt195.2.1 bt195.2.2.1 bt195.2.2.2 y202 (wrap64 (1 + (mn t205 t206)))).bind fun bt207 => ((level_Deep.f k bt195.1 bt195.2.1 bt195.2.2.1 bt195.2.2.2 y202 (wrap64 (1 + (mx t205 t206)))).bind fun bt209 => ((plain_Block.f k bt195.1 bt195.2.1 bt195.2.2.1 bt195.2.2.2 y202 (wrap64 (1 + (mn t205 t206)))).bind fun bt211 => ((plain_Block.f k bt195.1 bt195.2.1 bt195.2.2.1 bt195.2.2.2 bt211.1 (wrap64 (1 + (mx t205 t206)))).bind fun bt218 => ((plain_Block.f k bt195.1 bt195.2.1 bt195.2.2.1 bt195.2.2.2 y202 4611686018427387904).bind fun bt225 => (if bt211.2.2 = 0 then (if bt218.2.2 = 0 then (if bt225.2.2 = 0 then (if (bt225.2.1.length : Int) = 0 then ((racewayref5_Same.f k bt225.1 y202).bind fun t232 => (racewaylaw8_PlainRooms.j0 k bt207.1 bt209.1 bt211.2.1 bt218.2.1 (!t232))) else (racewaylaw8_PlainRooms.j0 k bt207.1 bt209.1 bt211.2.1 bt218.2.1 true)) else (racewaylaw8_PlainRooms.j0 k bt207.1 bt209.1 bt211.2.1 bt218.2.1 true)) else (racewaylaw8_PlainRooms.j0 k bt207.1 bt209.1 bt211.2.1 bt218.2.1 true)) else (racewaylaw8_PlainRooms.j0 k bt207.1 bt209.1 bt211.2.1 bt218.2.1 true)))))))))) else (none)) else (none))) else (some false)) = some r := H
 have A6 := Aside0.mk A60
 clear A60
 by_cases c7 : t194 = true
 ·subst c7
  have H1 : ((racewaylaw8_made.f k a0 a1 l2).bind fun bt195 => (if 0 ≤ (bt195.2.2.2.length : Int) then (if ((bt195.2.2.2.length : Int) : Int).toNat ≤ 35184372088832 then ((some (List.replicate ((bt195.2.2.2.length : Int) : Int).toNat 0 : List Int)).bind fun y202 => ((racewaylaw8_pick.f a3 20).bind fun t205 => ((racewaylaw8_pick.f a4 20).bind fun t206 => ((level_Deep.f k bt195.1 bt195.2.1 bt195.2.2.1 bt195.2.2.2 y202 (wrap64 (1 + (mn t205 t206)))).bind fun bt207 => ((level_Deep.f k bt195.1 bt195.2.1 bt195.2.2.1 bt195.2.2.2 y202 (wrap64 (1 + (mx t205 t206)))).bind fun bt209 => ((plain_Block.f k bt195.1 bt195.2.1 bt195.2.2.1 bt195.2.2.2 y202 (wrap64 (1 + (mn t205 t206)))).bind fun bt211 => ((plain_Block.f k bt195.1 bt195.2.1 bt195.2.2.1 bt195.2.2.2 bt211.1 (wrap64 (1 + (mx t205 t206)))).bind fun bt218 => ((plain_Block.f k bt195.1 bt195.2.1 bt195.2.2.1 bt195.2.2.2 y202 4611686018427387904).bind fun bt225 => (if bt211.2.2 = 0 then (if bt218.2.2 = 0 then (if bt225.2.2 = 0 then (if (bt225.2.1.length : Int) = 0 then ((racewayref5_Same.f k bt225.1 y202).bind fun t232 => (racewaylaw8_PlainRooms.j0 k bt207.1 bt209.1 bt211.2.1 bt218.2.1 (!t232))) else (racewaylaw8_PlainRooms.j0 k bt207.1 bt209.1 bt211.2.1 bt218.2.1 true)) else (racewaylaw8_PlainRooms.j0 k bt207.1 bt209.1 bt211.2.1 bt218.2.1 true)) else (racewaylaw8_PlainRooms.j0 k bt207.1 bt209.1 bt211.2.1 bt218.2.1 true)) else (racewaylaw8_PlainRooms.j0 k bt207.1 bt209.1 bt211.2.1 bt218.2.1 true)))))))))) else (none)) else (none))) = some r := by rw [if_pos rfl] at H; exact H
  clear H
  have H := H1
  clear H1
  replace H := Option.bind_eq_some_iff.mp H
  obtain ⟨⟨t195, t196, t197, t198⟩, A80, H⟩ := H
  replace H : (if 0 ≤ (t198.length : Int) then (if ((t198.length : Int) : Int).toNat ≤ 35184372088832 then ((some (List.replicate ((t198.length : Int) : Int).toNat 0 : List Int)).bind fun y202 => ((racewaylaw8_pick.f a3 20).bind fun t205 => ((racewaylaw8_pick.f a4 20).bind fun t206 => ((level_Deep.f k t195 t196 t197 t198 y202 (wrap64 (1 + (mn t205 t206)))).bind fun bt207 => ((level_Deep.f k t195 t196 t197 t198 y202 (wrap64 (1 + (mx t205 t206)))).bind fun bt209 => ((plain_Block.f k t195 t196 t197 t198 y202 (wrap64 (1 + (mn t205 t206)))).bind fun bt211 => ((plain_Block.f k t195 t196 t197 t198 bt211.1 (wrap64 (1 + (mx t205 t206)))).bind fun bt218 => ((plain_Block.f k t195 t196 t197 t198 y202 4611686018427387904).bind fun bt225 => (if bt211.2.2 = 0 then (if bt218.2.2 = 0 then (if bt225.2.2 = 0 then (if (bt225.2.1.length : Int) = 0 then ((racewayref5_Same.f k bt225.1 y202).bind fun t232 => (racewaylaw8_PlainRooms.j0 k bt207.1 bt209.1 bt211.2.1 bt218.2.1 (!t232))) else (racewaylaw8_PlainRooms.j0 k bt207.1 bt209.1 bt211.2.1 bt218.2.1 true)) else (racewaylaw8_PlainRooms.j0 k bt207.1 bt209.1 bt211.2.1 bt218.2.1 true)) else (racewaylaw8_PlainRooms.j0 k bt207.1 bt209.1 bt211.2.1 bt218.2.1 true)) else (racewaylaw8_PlainRooms.j0 k bt207.1 bt209.1 bt211.2.1 bt218.2.1 true)))))))))) else (none)) else (none)) = some r := H
  have A8 := Aside0.mk A80
  clear A80
  by_cases c9 : 0 ≤ (t198.length : Int)
  ·rw [if_pos c9] at H
   (have c9b0 := eq_true c9);(have c9b1 : decide (0 ≤ (t198.length : Int)) = true := decide_eq_true c9);(clear c9)
   by_cases c10 : ((t198.length : Int) : Int).toNat ≤ 35184372088832
   ·(rw [if_pos c10] at H);(have c10b0 := eq_true c10);(have c10b1 : decide (((t198.length : Int) : Int).toNat ≤ 35184372088832) = true := decide_eq_true c10);(clear c10);(obtain ⟨y202, hy202⟩ : ∃ y_ : List Int, y_ = (List.replicate ((t198.length : Int) : Int).toNat 0) := ⟨_, rfl⟩);(replace H : ((racewaylaw8_pick.f a3 20).bind fun t205 => ((racewaylaw8_pick.f a4 20).bind fun t206 => ((level_Deep.f k t195 t196 t197 t198 y202 (wrap64 (1 + (mn t205 t206)))).bind fun bt207 => ((level_Deep.f k t195 t196 t197 t198 y202 (wrap64 (1 + (mx t205 t206)))).bind fun bt209 => ((plain_Block.f k t195 t196 t197 t198 y202 (wrap64 (1 + (mn t205 t206)))).bind fun bt211 => ((plain_Block.f k t195 t196 t197 t198 bt211.1 (wrap64 (1 + (mx t205 t206)))).bind fun bt218 => ((plain_Block.f k t195 t196 t197 t198 y202 4611686018427387904).bind fun bt225 => (if bt211.2.2 = 0 then (if bt218.2.2 = 0 then (if bt225.2.2 = 0 then (if (bt225.2.1.length : Int) = 0 then ((racewayref5_Same.f k bt225.1 y202).bind fun t232 => (racewaylaw8_PlainRooms.j0 k bt207.1 bt209.1 bt211.2.1 bt218.2.1 (!t232))) else (racewaylaw8_PlainRooms.j0 k bt207.1 bt209.1 bt211.2.1 bt218.2.1 true)) else (racewaylaw8_PlainRooms.j0 k bt207.1 bt209.1 bt211.2.1 bt218.2.1 true)) else (racewaylaw8_PlainRooms.j0 k bt207.1 bt209.1 bt211.2.1 bt218.2.1 true)) else (racewaylaw8_PlainRooms.j0 k bt207.1 bt209.1 bt211.2.1 bt218.2.1 true))))))))) = some r := by first | (rw [hy202]; with_reducible exact H) | (have H2_ := (Option.bind_some _ _).symm.trans H; rw [hy202]; with_reducible exact H2_) | (have H2_ := (Option.bind_some _ _).symm.trans H; with_reducible exact H2_) | with_reducible exact H | (rw [hy202]; exact H) | exact H);(have Ny202 := Aside0.mk hy202);(clear hy202);(replace H := Option.bind_eq_some_iff.mp H);(obtain ⟨t205, A110, H⟩ := H);(replace H : ((racewaylaw8_pick.f a4 20).bind fun t206 => ((level_Deep.f k t195 t196 t197 t198 y202 (wrap64 (1 + (mn t205 t206)))).bind fun bt207 => ((level_Deep.f k t195 t196 t197 t198 y202 (wrap64 (1 + (mx t205 t206)))).bind fun bt209 => ((plain_Block.f k t195 t196 t197 t198 y202 (wrap64 (1 + (mn t205 t206)))).bind fun bt211 => ((plain_Block.f k t195 t196 t197 t198 bt211.1 (wrap64 (1 + (mx t205 t206)))).bind fun bt218 => ((plain_Block.f k t195 t196 t197 t198 y202 4611686018427387904).bind fun bt225 => (if bt211.2.2 = 0 then (if bt218.2.2 = 0 then (if bt225.2.2 = 0 then (if (bt225.2.1.length : Int) = 0 then ((racewayref5_Same.f k bt225.1 y202).bind fun t232 => (racewaylaw8_PlainRooms.j0 k bt207.1 bt209.1 bt211.2.1 bt218.2.1 (!t232))) else (racewaylaw8_PlainRooms.j0 k bt207.1 bt209.1 bt211.2.1 bt218.2.1 true)) else (racewaylaw8_PlainRooms.j0 k bt207.1 bt209.1 bt211.2.1 bt218.2.1 true)) else (racewaylaw8_PlainRooms.j0 k bt207.1 bt209.1 bt211.2.1 bt218.2.1 true)) else (racewaylaw8_PlainRooms.j0 k bt207.1 bt209.1 bt211.2.1 bt218.2.1 true)))))))) = some r := H);(have A11 := Aside0.mk A110);(clear A110);(replace H := Option.bind_eq_some_iff.mp H);(obtain ⟨t206, A120, H⟩ := H);(replace H : ((level_Deep.f k t195 t196 t197 t198 y202 (wrap64 (1 + (mn t205 t206)))).bind fun bt207 => ((level_Deep.f k t195 t196 t197 t198 y202 (wrap64 (1 + (mx t205 t206)))).bind fun bt209 => ((plain_Block.f k t195 t196 t197 t198 y202 (wrap64 (1 + (mn t205 t206)))).bind fun bt211 => ((plain_Block.f k t195 t196 t197 t198 bt211.1 (wrap64 (1 + (mx t205 t206)))).bind fun bt218 => ((plain_Block.f k t195 t196 t197 t198 y202 4611686018427387904).bind fun bt225 => (if bt211.2.2 = 0 then (if bt218.2.2 = 0 then (if bt225.2.2 = 0 then (if (bt225.2.1.length : Int) = 0 then ((racewayref5_Same.f k bt225.1 y202).bind fun t232 => (racewaylaw8_PlainRooms.j0 k bt207.1 bt209.1 bt211.2.1 bt218.2.1 (!t232))) else (racewaylaw8_PlainRooms.j0 k bt207.1 bt209.1 bt211.2.1 bt218.2.1 true)) else (racewaylaw8_PlainRooms.j0 k bt207.1 bt209.1 bt211.2.1 bt218.2.1 true)) else (racewaylaw8_PlainRooms.j0 k bt207.1 bt209.1 bt211.2.1 bt218.2.1 true)) else (racewaylaw8_PlainRooms.j0 k bt207.1 bt209.1 bt211.2.1 bt218.2.1 true))))))) = some r := H);(have A12 := Aside0.mk A120);(clear A120);(obtain ⟨ji13, hji13⟩ : ∃ j_ : Int, (mn t205 t206) = j_ := ⟨_, rfl⟩);(replace H : ((level_Deep.f k t195 t196 t197 t198 y202 (wrap64 (1 + (ji13)))).bind fun bt207 => ((level_Deep.f k t195 t196 t197 t198 y202 (wrap64 (1 + (mx t205 t206)))).bind fun bt209 => ((plain_Block.f k t195 t196 t197 t198 y202 (wrap64 (1 + (ji13)))).bind fun bt211 => ((plain_Block.f k t195 t196 t197 t198 bt211.1 (wrap64 (1 + (mx t205 t206)))).bind fun bt218 => ((plain_Block.f k t195 t196 t197 t198 y202 4611686018427387904).bind fun bt225 => (if bt211.2.2 = 0 then (if bt218.2.2 = 0 then (if bt225.2.2 = 0 then (if (bt225.2.1.length : Int) = 0 then ((racewayref5_Same.f k bt225.1 y202).bind fun t232 => (racewaylaw8_PlainRooms.j0 k bt207.1 bt209.1 bt211.2.1 bt218.2.1 (!t232))) else (racewaylaw8_PlainRooms.j0 k bt207.1 bt209.1 bt211.2.1 bt218.2.1 true)) else (racewaylaw8_PlainRooms.j0 k bt207.1 bt209.1 bt211.2.1 bt218.2.1 true)) else (racewaylaw8_PlainRooms.j0 k bt207.1 bt209.1 bt211.2.1 bt218.2.1 true)) else (racewaylaw8_PlainRooms.j0 k bt207.1 bt209.1 bt211.2.1 bt218.2.1 true))))))) = some r := by first | (rw [hji13] at H; exact H) | (simp only [hji13] at H ⊢; exact H));((try rw [hji13] at A6));((try rw [hji13] at A8));((try rw [hji13] at A11));((try rw [hji13] at A12));(have hji13_ : (if t206 < t205 then t206 else t205) = ji13 := hji13);(obtain ⟨ji14, hji14⟩ : ∃ j_ : Int, (mx t205 t206) = j_ := ⟨_, rfl⟩);(replace H : ((level_Deep.f k t195 t196 t197 t198 y202 (wrap64 (1 + (ji13)))).bind fun bt207 => ((level_Deep.f k t195 t196 t197 t198 y202 (wrap64 (1 + (ji14)))).bind fun bt209 => ((plain_Block.f k t195 t196 t197 t198 y202 (wrap64 (1 + (ji13)))).bind fun bt211 => ((plain_Block.f k t195 t196 t197 t198 bt211.1 (wrap64 (1 + (ji14)))).bind fun bt218 => ((plain_Block.f k t195 t196 t197 t198 y202 4611686018427387904).bind fun bt225 => (if bt211.2.2 = 0 then (if bt218.2.2 = 0 then (if bt225.2.2 = 0 then (if (bt225.2.1.length : Int) = 0 then ((racewayref5_Same.f k bt225.1 y202).bind fun t232 => (racewaylaw8_PlainRooms.j0 k bt207.1 bt209.1 bt211.2.1 bt218.2.1 (!t232))) else (racewaylaw8_PlainRooms.j0 k bt207.1 bt209.1 bt211.2.1 bt218.2.1 true)) else (racewaylaw8_PlainRooms.j0 k bt207.1 bt209.1 bt211.2.1 bt218.2.1 true)) else (racewaylaw8_PlainRooms.j0 k bt207.1 bt209.1 bt211.2.1 bt218.2.1 true)) else (racewaylaw8_PlainRooms.j0 k bt207.1 bt209.1 bt211.2.1 bt218.2.1 true))))))) = some r := by first | (rw [hji14] at H; exact H) | (simp only [hji14] at H ⊢; exact H));((try rw [hji14] at A6));((try rw [hji14] at A8));((try rw [hji14] at A11));((try rw [hji14] at A12));(have hji14_ : (if t205 < t206 then t206 else t205) = ji14 := hji14);(replace H := Option.bind_eq_some_iff.mp H);(obtain ⟨⟨t207, t208⟩, A150, H⟩ := H);(replace H : ((level_Deep.f k t195 t196 t197 t198 y202 (wrap64 (1 + (ji14)))).bind fun bt209 => ((plain_Block.f k t195 t196 t197 t198 y202 (wrap64 (1 + (ji13)))).bind fun bt211 => ((plain_Block.f k t195 t196 t197 t198 bt211.1 (wrap64 (1 + (ji14)))).bind fun bt218 => ((plain_Block.f k t195 t196 t197 t198 y202 4611686018427387904).bind fun bt225 => (if bt211.2.2 = 0 then (if bt218.2.2 = 0 then (if bt225.2.2 = 0 then (if (bt225.2.1.length : Int) = 0 then ((racewayref5_Same.f k bt225.1 y202).bind fun t232 => (racewaylaw8_PlainRooms.j0 k t207 bt209.1 bt211.2.1 bt218.2.1 (!t232))) else (racewaylaw8_PlainRooms.j0 k t207 bt209.1 bt211.2.1 bt218.2.1 true)) else (racewaylaw8_PlainRooms.j0 k t207 bt209.1 bt211.2.1 bt218.2.1 true)) else (racewaylaw8_PlainRooms.j0 k t207 bt209.1 bt211.2.1 bt218.2.1 true)) else (racewaylaw8_PlainRooms.j0 k t207 bt209.1 bt211.2.1 bt218.2.1 true)))))) = some r := H);(have A15 := Aside0.mk A150);(clear A150);(replace H := Option.bind_eq_some_iff.mp H);(obtain ⟨⟨t209, t210⟩, A160, H⟩ := H);(replace H : ((plain_Block.f k t195 t196 t197 t198 y202 (wrap64 (1 + (ji13)))).bind fun bt211 => ((plain_Block.f k t195 t196 t197 t198 bt211.1 (wrap64 (1 + (ji14)))).bind fun bt218 => ((plain_Block.f k t195 t196 t197 t198 y202 4611686018427387904).bind fun bt225 => (if bt211.2.2 = 0 then (if bt218.2.2 = 0 then (if bt225.2.2 = 0 then (if (bt225.2.1.length : Int) = 0 then ((racewayref5_Same.f k bt225.1 y202).bind fun t232 => (racewaylaw8_PlainRooms.j0 k t207 t209 bt211.2.1 bt218.2.1 (!t232))) else (racewaylaw8_PlainRooms.j0 k t207 t209 bt211.2.1 bt218.2.1 true)) else (racewaylaw8_PlainRooms.j0 k t207 t209 bt211.2.1 bt218.2.1 true)) else (racewaylaw8_PlainRooms.j0 k t207 t209 bt211.2.1 bt218.2.1 true)) else (racewaylaw8_PlainRooms.j0 k t207 t209 bt211.2.1 bt218.2.1 true))))) = some r := H);(have A16 := Aside0.mk A160);(clear A160);(replace H := Option.bind_eq_some_iff.mp H);(obtain ⟨⟨t211, t214, t217⟩, A170, H⟩ := H);(replace H : ((plain_Block.f k t195 t196 t197 t198 t211 (wrap64 (1 + (ji14)))).bind fun bt218 => ((plain_Block.f k t195 t196 t197 t198 y202 4611686018427387904).bind fun bt225 => (if t217 = 0 then (if bt218.2.2 = 0 then (if bt225.2.2 = 0 then (if (bt225.2.1.length : Int) = 0 then ((racewayref5_Same.f k bt225.1 y202).bind fun t232 => (racewaylaw8_PlainRooms.j0 k t207 t209 t214 bt218.2.1 (!t232))) else (racewaylaw8_PlainRooms.j0 k t207 t209 t214 bt218.2.1 true)) else (racewaylaw8_PlainRooms.j0 k t207 t209 t214 bt218.2.1 true)) else (racewaylaw8_PlainRooms.j0 k t207 t209 t214 bt218.2.1 true)) else (racewaylaw8_PlainRooms.j0 k t207 t209 t214 bt218.2.1 true)))) = some r := H);(have A17 := Aside0.mk A170);(clear A170);(replace H := Option.bind_eq_some_iff.mp H);(obtain ⟨⟨t218, t221, t224⟩, A180, H⟩ := H);(replace H : ((plain_Block.f k t195 t196 t197 t198 y202 4611686018427387904).bind fun bt225 => (if t217 = 0 then (if t224 = 0 then (if bt225.2.2 = 0 then (if (bt225.2.1.length : Int) = 0 then ((racewayref5_Same.f k bt225.1 y202).bind fun t232 => (racewaylaw8_PlainRooms.j0 k t207 t209 t214 t221 (!t232))) else (racewaylaw8_PlainRooms.j0 k t207 t209 t214 t221 true)) else (racewaylaw8_PlainRooms.j0 k t207 t209 t214 t221 true)) else (racewaylaw8_PlainRooms.j0 k t207 t209 t214 t221 true)) else (racewaylaw8_PlainRooms.j0 k t207 t209 t214 t221 true))) = some r := H);(have A18 := Aside0.mk A180);(clear A180);(replace H := Option.bind_eq_some_iff.mp H);(obtain ⟨⟨t225, t228, t231⟩, A190, H⟩ := H);(replace H : (if t217 = 0 then (if t224 = 0 then (if t231 = 0 then (if (t228.length : Int) = 0 then ((racewayref5_Same.f k t225 y202).bind fun t232 => (racewaylaw8_PlainRooms.j0 k t207 t209 t214 t221 (!t232))) else (racewaylaw8_PlainRooms.j0 k t207 t209 t214 t221 true)) else (racewaylaw8_PlainRooms.j0 k t207 t209 t214 t221 true)) else (racewaylaw8_PlainRooms.j0 k t207 t209 t214 t221 true)) else (racewaylaw8_PlainRooms.j0 k t207 t209 t214 t221 true)) = some r := H);(have A19 := Aside0.mk A190);(clear A190);(have HC20 := Aside0.mk H);(clear H)
    go_enter Try.func10, Try.ntmps10
    go_upto_region 13 with (first | ((with_reducible refine gate_callee (f := 24) rfl ?_); refine goesL_ (some 30) rfl rfl Try.func24 (by kernel_rfl) rfl #[] rfl (by (try simp only [List.map_toArray, List.map_cons, List.map_nil]); first | done | rfl | (simp only [List.length_drop, List.length_take]; rfl)) ?_; (with_reducible refine (racewaylaw8_shown.calls k  true _ A6.out).mono ?_); rintro e w21 ⟨rfl, hb⟩; refine ⟨_, rfl, ?_⟩; have n0_ := Aside0.mk (below_step (by repeat (first | (with_reducible first | exact HB.out | apply below_alloc | apply pw_below_drewN | apply below_drew1) | exact HB.out)) hb); clear HB; have HB := n0_; clear n0_; (try clear hb); (try clear hb2); (try clear hk); (try clear hi)) | ((with_reducible refine gate_callee (f := 25) rfl ?_); refine goesL_ (some 36) rfl rfl Try.func25 (by kernel_rfl) rfl #[.int .i64 a0, .int .i64 a1, .slice A2 l2.length c2] rfl (by (try simp only [List.map_toArray, List.map_cons, List.map_nil]); first | done | rfl | (simp only [List.length_drop, List.length_take]; rfl)) ?_; (with_reducible refine (racewaylaw8_made.calls k a0 a1 _ _ l2 t195 t196 t197 t198 _ ?side1 ?side2 A8.out).mono ?_); (case side1 => repeat (first | exact (Kd.C_below HR2.out HB.out) | (with_reducible refine Kd.C_alloc ?_ _) | (with_reducible refine Kd.C_drewN ?_ _) | (with_reducible refine Kd.C_drew ?_))); (case side2 => exact HC2.out); rintro e w22 ⟨v199, rfl, ho0, hb⟩; refine ⟨_, rfl, ?_⟩; have n0_ := Aside0.mk (Kd.R_lower ho0 (below_size (by repeat (first | (with_reducible first | exact HB.out | apply below_alloc | apply pw_below_drewN | apply below_drew1) | exact HB.out)))); have n1_ := Aside0.mk (below_step (by repeat (first | (with_reducible first | exact HB.out | apply below_alloc | apply pw_below_drewN | apply below_drew1) | exact HB.out)) hb); clear HB; have HO200 := n0_; have HB := n1_; clear n0_ n1_; (try clear hb); (try clear hb2); (try clear hk); (try clear hi); (try clear ho0)) | ((with_reducible refine gate_dst (N := 12) rfl ?_); (try (refine gate_guard (by rfl) ?_; dsimp only)); refine box_event ?hg (N := 12) ?hd (cs := #[.int .i64 0, .int .i64 0, .int .i64 0, .slice none 0 0]) (t := 26) ?hr ?_; (case hd => rfl); (case hg => rfl); (case hr => first | (go_simp; done) | (go_simp; rfl)); intro gb201 hg w23 hbox hb; have n0_ := Aside0.mk (Kd.R_below (by (with_reducible repeat first | apply Kd.R_alloc | apply Kd.R_drewN | apply Kd.R_drew); exact HO200.out) hb); have n1_ := Aside0.mk (below_step (by repeat (first | (with_reducible first | exact HB.out | apply below_alloc | apply pw_below_drewN | apply below_drew1) | exact HB.out)) hb); have n2_ := Aside0.mk (hbox); have n3_ := Aside0.mk ((by rw [hg]; exact (below_size (by repeat (first | (with_reducible first | exact HB.out | apply below_alloc | apply pw_below_drewN | apply below_drew1) | exact HB.out))) : w.heap.size ≤ gb201)); have n4_ := Aside0.mk ((by rw [hg]; exact (below_size (by repeat (first | (with_reducible first | exact HB.out | apply below_alloc | apply pw_below_drewN | apply below_drew1) | exact HB.out))) : w.heap.size ≤ gb201)); clear HO200; clear HB; have HO200 := n0_; have HB := n1_; have BK201 := n2_; have GW201 := n3_; have GE201 := n4_; clear n0_ n1_ n2_ n3_ n4_; clear hb hbox hg; have hcz24_0 : w23.cell? ⟨gb201, 0, none⟩ = some (.int .i64 0) := (blk_cell BK201.out 0).trans rfl; have hcz24_1 : w23.cell? ⟨gb201, 1, none⟩ = some (.int .i64 0) := (blk_cell BK201.out 1).trans rfl; have hcz24_2 : w23.cell? ⟨gb201, 2, none⟩ = some (.int .i64 0) := (blk_cell BK201.out 2).trans rfl; have hcz24_3 : w23.cell? ⟨gb201, 3, none⟩ = some (.slice none 0 0) := (blk_cell BK201.out 3).trans rfl; have hfz24_0 := blk_frozen BK201.out 0; have hfz24_1 := blk_frozen BK201.out 1; have hfz24_2 := blk_frozen BK201.out 2; have hfz24_3 := blk_frozen BK201.out 3; obtain ⟨Ao25, co25, eo25⟩ := Kd.R_slice HO200.out; (first | subst eo25 | skip)) | ((with_reducible refine gate_dst (N := 40) rfl ?_); (try (refine gate_guard (by rfl) ?_; dsimp only)); refine Kd.R_make (Kd.int .i64) _ 2 rfl (N := 40) rfl 27 _ _ rfl (t198.length : Int) rfl rfl Try.underlying27 (.int .i64 0) 8 info2 rfl (by decide) (by omega) 0 (ok := fun _ => True) (okp := fun _ => True) rfl (fun _ hk => hk) trivial (of_decide_eq_true (by first | (with_reducible assumption) | assumption)) (Nat.le_trans (Nat.mul_le_mul_right _ (of_decide_eq_true (by first | (with_reducible assumption) | assumption) : (t198.length : Int).toNat ≤ 35184372088832)) (by omega)) (Below.refl _ _) (Nat.le_refl _) ?_; intro v203 w26 ho27 hb hg_ hnew_; clear hg_ hnew_; (first | rw [← Ny202.out] at ho27 | (simp only [Int.reduceToNat] at ho27; rw [← Ny202.out] at ho27)); have n0_ := Aside0.mk (Kd.R_below (by (with_reducible repeat first | apply Kd.R_alloc | apply Kd.R_drewN | apply Kd.R_drew); exact (Kd.R_mono (Kd.R_far (p := ⟨gb201, 3, none⟩) (Kd.R_far (p := ⟨gb201, 2, none⟩) (Kd.R_far (p := ⟨gb201, 1, none⟩) (Kd.R_far (p := ⟨gb201, 0, none⟩) (Kd.R_types HO200.out BK201.out (by decide)) (fun _ hk => hk.2) (.int .i64 t195)) (fun _ hk => hk.2) (.int .i64 t196)) (fun _ hk => hk.2) (.int .i64 t197)) (fun _ hk => hk.2) (.slice Ao25 t198.length co25)) (fun _ h_ => h_.1))) hb); have n1_ := Aside0.mk (Kd.R_lower ho27 (below_size (by repeat (first | (with_reducible first | exact HB.out | apply below_alloc | apply pw_below_drewN | apply below_drew1 | refine below_set ?_ GE201.out) | exact HB.out)))); have n2_ := Aside0.mk (blk_below (g := gb201) (o := .cells #[.int .i64 t195, .int .i64 t196, .int .i64 t197, .slice Ao25 t198.length co25] 26 (0, 0)) (by (with_reducible repeat first | refine blk_drewN ?_ _ | refine blk_drew ?_ | refine blk_alloc ?_ _); refine blk_put (cs := #[.int .i64 t195, .int .i64 t196, .int .i64 t197, .slice none 0 0]) ?_ 3 _ rfl; (with_reducible repeat first | refine blk_drewN ?_ _ | refine blk_drew ?_ | refine blk_alloc ?_ _); refine blk_put (cs := #[.int .i64 t195, .int .i64 t196, .int .i64 0, .slice none 0 0]) ?_ 2 _ rfl; (with_reducible repeat first | refine blk_drewN ?_ _ | refine blk_drew ?_ | refine blk_alloc ?_ _); refine blk_put (cs := #[.int .i64 t195, .int .i64 0, .int .i64 0, .slice none 0 0]) ?_ 1 _ rfl; (with_reducible repeat first | refine blk_drewN ?_ _ | refine blk_drew ?_ | refine blk_alloc ?_ _); refine blk_put (cs := #[.int .i64 0, .int .i64 0, .int .i64 0, .slice none 0 0]) ?_ 0 _ rfl; (with_reducible repeat first | refine blk_drewN ?_ _ | refine blk_drew ?_ | refine blk_alloc ?_ _); exact BK201.out) hb); have n3_ := Aside0.mk (below_step (by repeat (first | (with_reducible first | exact HB.out | apply below_alloc | apply pw_below_drewN | apply below_drew1 | refine below_set ?_ GE201.out) | exact HB.out)) hb); clear HO200; clear BK201; clear HB; have HO200 := n0_; have HO204 := n1_; have BK201 := n2_; have HB := n3_; clear n0_ n1_ n2_ n3_; clear hb ho27) | ((with_reducible refine gate_callee (f := 27) rfl ?_); refine goesL_ (some 42) rfl rfl Try.func27 (by kernel_rfl) rfl #[.int .i64 a3, .int .i64 20] rfl (by (try simp only [List.map_toArray, List.map_cons, List.map_nil]); first | done | rfl | (simp only [List.length_drop, List.length_take]; rfl)) ?_; (with_reducible refine (racewaylaw8_pick.calls a3 20 t205 _ A11.out).mono ?_); rintro e w' ⟨rfl, ⟨nd, rfl⟩⟩; refine ⟨_, rfl, ?_⟩) | ((with_reducible refine gate_callee (f := 27) rfl ?_); refine goesL_ (some 44) rfl rfl Try.func27 (by kernel_rfl) rfl #[.int .i64 a4, .int .i64 20] rfl (by (try simp only [List.map_toArray, List.map_cons, List.map_nil]); first | done | rfl | (simp only [List.length_drop, List.length_take]; rfl)) ?_; (with_reducible refine (racewaylaw8_pick.calls a4 20 t206 _ A12.out).mono ?_); rintro e w' ⟨rfl, ⟨nd, rfl⟩⟩; refine ⟨_, rfl, ?_⟩; have hcz28_0 : w26.cell? ⟨gb201, 0, none⟩ = some (.int .i64 t195) := (blk_cell BK201.out 0).trans rfl; have hcz28_1 : w26.cell? ⟨gb201, 1, none⟩ = some (.int .i64 t196) := (blk_cell BK201.out 1).trans rfl; have hcz28_2 : w26.cell? ⟨gb201, 2, none⟩ = some (.int .i64 t197) := (blk_cell BK201.out 2).trans rfl; have hcz28_3 : w26.cell? ⟨gb201, 3, none⟩ = some (.slice Ao25 t198.length co25) := (blk_cell BK201.out 3).trans rfl; have hfz28_0 := blk_frozen BK201.out 0; have hfz28_1 := blk_frozen BK201.out 1; have hfz28_2 := blk_frozen BK201.out 2; have hfz28_3 := blk_frozen BK201.out 3; obtain ⟨Ao29, co29, eo29⟩ := Kd.R_slice HO204.out; (first | subst eo29 | skip)) | ((with_reducible refine gate_callee (f := 27) rfl ?_); refine goesL_ _ rfl rfl Try.func27 (by kernel_rfl) rfl #[.int .i64 a3, .int .i64 20] rfl (by (try simp only [List.map_toArray, List.map_cons, List.map_nil]); first | done | rfl | (simp only [List.length_drop, List.length_take]; rfl)) ?_; (with_reducible refine (racewaylaw8_pick.calls a3 20 t205 _ A11.out).mono ?_); rintro e w' ⟨rfl, ⟨nd, rfl⟩⟩; refine ⟨_, rfl, ?_⟩) | ((with_reducible refine gate_callee (f := 27) rfl ?_); refine goesL_ _ rfl rfl Try.func27 (by kernel_rfl) rfl #[.int .i64 a4, .int .i64 20] rfl (by (try simp only [List.map_toArray, List.map_cons, List.map_nil]); first | done | rfl | (simp only [List.length_drop, List.length_take]; rfl)) ?_; (with_reducible refine (racewaylaw8_pick.calls a4 20 t206 _ A12.out).mono ?_); rintro e w' ⟨rfl, ⟨nd, rfl⟩⟩; refine ⟨_, rfl, ?_⟩; have hcz28_0 : w26.cell? ⟨gb201, 0, none⟩ = some (.int .i64 t195) := (blk_cell BK201.out 0).trans rfl; have hcz28_1 : w26.cell? ⟨gb201, 1, none⟩ = some (.int .i64 t196) := (blk_cell BK201.out 1).trans rfl; have hcz28_2 : w26.cell? ⟨gb201, 2, none⟩ = some (.int .i64 t197) := (blk_cell BK201.out 2).trans rfl; have hcz28_3 : w26.cell? ⟨gb201, 3, none⟩ = some (.slice Ao25 t198.length co25) := (blk_cell BK201.out 3).trans rfl; have hfz28_0 := blk_frozen BK201.out 0; have hfz28_1 := blk_frozen BK201.out 1; have hfz28_2 := blk_frozen BK201.out 2; have hfz28_3 := blk_frozen BK201.out 3; obtain ⟨Ao29, co29, eo29⟩ := Kd.R_slice HO204.out; (first | subst eo29 | skip)) | ((with_reducible refine gate_callee (f := 31) rfl ?_); refine goesL_ (some 57) rfl rfl Try.func31 (by kernel_rfl) rfl #[.agg #[.int .i64 t195, .int .i64 t196, .int .i64 t197, .slice Ao25 t198.length co25], .slice Ao29 y202.length co29, .int .i64 (wrap64 (1 + (ji13)))] rfl (by (try simp only [List.map_toArray, List.map_cons, List.map_nil]); first | done | (simp only [hji13]; rfl) | rfl | (simp only [List.length_drop, List.length_take]; rfl)) ?_; (with_reducible refine (level_Deep.calls k t195 t196 t197 _ _ t198 _ _ y202 (wrap64 (1 + (ji13))) t207 t208 _ ?side1 ?side2 ?side3 ?side4 A15.out).mono ?_); (case side1 => repeat (first | exact (Kd.R_reads' HO200.out).2.2 | (with_reducible refine Kd.C_alloc ?_ _) | (with_reducible refine Kd.C_drewN ?_ _) | (with_reducible refine Kd.C_drew ?_))); (case side2 => exact (Kd.R_reads' HO200.out).2.1); (case side3 => repeat (first | exact (Kd.R_reads' HO204.out).2.2 | (with_reducible refine Kd.C_alloc ?_ _) | (with_reducible refine Kd.C_drewN ?_ _) | (with_reducible refine Kd.C_drew ?_))); (case side4 => exact (Kd.R_reads' HO204.out).2.1); rintro e w30 ⟨rfl, hb⟩; refine ⟨_, rfl, ?_⟩; have n0_ := Aside0.mk (Kd.R_below (by (with_reducible repeat first | apply Kd.R_alloc | apply Kd.R_drewN | apply Kd.R_drew); exact HO200.out) hb); have n1_ := Aside0.mk (Kd.R_below (by (with_reducible repeat first | apply Kd.R_alloc | apply Kd.R_drewN | apply Kd.R_drew); exact HO204.out) hb); have n2_ := Aside0.mk (blk_below (g := gb201) (o := .cells #[.int .i64 t195, .int .i64 t196, .int .i64 t197, .slice Ao25 t198.length co25] 26 (0, 0)) (by (with_reducible repeat first | refine blk_drewN ?_ _ | refine blk_drew ?_ | refine blk_alloc ?_ _); exact BK201.out) hb); have n3_ := Aside0.mk (below_step (by repeat (first | (with_reducible first | exact HB.out | apply below_alloc | apply pw_below_drewN | apply below_drew1 | refine below_set ?_ GE201.out) | exact HB.out)) hb); clear HO200; clear HO204; clear BK201; clear HB; have HO200 := n0_; have HO204 := n1_; have BK201 := n2_; have HB := n3_; clear n0_ n1_ n2_ n3_; (try clear hb); (try clear hb2); (try clear hk); (try clear hi); have hcz31_0 : w30.cell? ⟨gb201, 0, none⟩ = some (.int .i64 t195) := (blk_cell BK201.out 0).trans rfl; have hcz31_1 : w30.cell? ⟨gb201, 1, none⟩ = some (.int .i64 t196) := (blk_cell BK201.out 1).trans rfl; have hcz31_2 : w30.cell? ⟨gb201, 2, none⟩ = some (.int .i64 t197) := (blk_cell BK201.out 2).trans rfl; have hcz31_3 : w30.cell? ⟨gb201, 3, none⟩ = some (.slice Ao25 t198.length co25) := (blk_cell BK201.out 3).trans rfl; have hfz31_0 := blk_frozen BK201.out 0; have hfz31_1 := blk_frozen BK201.out 1; have hfz31_2 := blk_frozen BK201.out 2; have hfz31_3 := blk_frozen BK201.out 3) | ((with_reducible refine gate_callee (f := 31) rfl ?_); refine goesL_ (some 64) rfl rfl Try.func31 (by kernel_rfl) rfl #[.agg #[.int .i64 t195, .int .i64 t196, .int .i64 t197, .slice Ao25 t198.length co25], .slice Ao29 y202.length co29, .int .i64 (wrap64 (1 + (ji14)))] rfl (by (try simp only [List.map_toArray, List.map_cons, List.map_nil]); first | done | (simp only [hji14]; rfl) | rfl | (simp only [List.length_drop, List.length_take]; rfl)) ?_; (with_reducible refine (level_Deep.calls k t195 t196 t197 _ _ t198 _ _ y202 (wrap64 (1 + (ji14))) t209 t210 _ ?side1 ?side2 ?side3 ?side4 A16.out).mono ?_); (case side1 => repeat (first | exact (Kd.R_reads' HO200.out).2.2 | (with_reducible refine Kd.C_alloc ?_ _) | (with_reducible refine Kd.C_drewN ?_ _) | (with_reducible refine Kd.C_drew ?_))); (case side2 => exact (Kd.R_reads' HO200.out).2.1); (case side3 => repeat (first | exact (Kd.R_reads' HO204.out).2.2 | (with_reducible refine Kd.C_alloc ?_ _) | (with_reducible refine Kd.C_drewN ?_ _) | (with_reducible refine Kd.C_drew ?_))); (case side4 => exact (Kd.R_reads' HO204.out).2.1); rintro e w32 ⟨rfl, hb⟩; refine ⟨_, rfl, ?_⟩; have n0_ := Aside0.mk (Kd.R_below (by (with_reducible repeat first | apply Kd.R_alloc | apply Kd.R_drewN | apply Kd.R_drew); exact HO200.out) hb); have n1_ := Aside0.mk (Kd.R_below (by (with_reducible repeat first | apply Kd.R_alloc | apply Kd.R_drewN | apply Kd.R_drew); exact HO204.out) hb); have n2_ := Aside0.mk (blk_below (g := gb201) (o := .cells #[.int .i64 t195, .int .i64 t196, .int .i64 t197, .slice Ao25 t198.length co25] 26 (0, 0)) (by (with_reducible repeat first | refine blk_drewN ?_ _ | refine blk_drew ?_ | refine blk_alloc ?_ _); exact BK201.out) hb); have n3_ := Aside0.mk (below_step (by repeat (first | (with_reducible first | exact HB.out | apply below_alloc | apply pw_below_drewN | apply below_drew1 | refine below_set ?_ GE201.out) | exact HB.out)) hb); clear HO200; clear HO204; clear BK201; clear HB; have HO200 := n0_; have HO204 := n1_; have BK201 := n2_; have HB := n3_; clear n0_ n1_ n2_ n3_; (try clear hb); (try clear hb2); (try clear hk); (try clear hi); have hcz33_0 : w32.cell? ⟨gb201, 0, none⟩ = some (.int .i64 t195) := (blk_cell BK201.out 0).trans rfl; have hcz33_1 : w32.cell? ⟨gb201, 1, none⟩ = some (.int .i64 t196) := (blk_cell BK201.out 1).trans rfl; have hcz33_2 : w32.cell? ⟨gb201, 2, none⟩ = some (.int .i64 t197) := (blk_cell BK201.out 2).trans rfl; have hcz33_3 : w32.cell? ⟨gb201, 3, none⟩ = some (.slice Ao25 t198.length co25) := (blk_cell BK201.out 3).trans rfl; have hfz33_0 := blk_frozen BK201.out 0; have hfz33_1 := blk_frozen BK201.out 1; have hfz33_2 := blk_frozen BK201.out 2; have hfz33_3 := blk_frozen BK201.out 3) | ((with_reducible refine gate_callee (f := 28) rfl ?_); refine goesL_ (some 71) rfl rfl Try.func28 (by kernel_rfl) rfl #[.agg #[.int .i64 t195, .int .i64 t196, .int .i64 t197, .slice Ao25 t198.length co25], .slice Ao29 y202.length co29, .int .i64 (wrap64 (1 + (ji13)))] rfl (by (try simp only [List.map_toArray, List.map_cons, List.map_nil]); first | done | (simp only [hji13]; rfl) | rfl | (simp only [List.length_drop, List.length_take]; rfl)) ?_; (with_reducible refine (plain_Block.calls k t195 t196 t197 _ _ t198 _ _ y202 (wrap64 (1 + (ji13))) t211 t214 t217 _ ?side1 ?side2 ?side3 ?side4 A17.out).mono ?_); (case side1 => repeat (first | exact (Kd.R_reads' HO200.out).2.2 | (with_reducible refine Kd.C_alloc ?_ _) | (with_reducible refine Kd.C_drewN ?_ _) | (with_reducible refine Kd.C_drew ?_))); (case side2 => exact (Kd.R_reads' HO200.out).2.1); (case side3 => repeat (first | exact (Kd.R_reads' HO204.out).2.2 | (with_reducible refine Kd.C_alloc ?_ _) | (with_reducible refine Kd.C_drewN ?_ _) | (with_reducible refine Kd.C_drew ?_))); (case side4 => exact (Kd.R_reads' HO204.out).2.1); rintro e w34 ⟨v212, v215, rfl, ho0, ho1, hb⟩; refine ⟨_, rfl, ?_⟩; have n0_ := Aside0.mk (Kd.R_below (by (with_reducible repeat first | apply Kd.R_alloc | apply Kd.R_drewN | apply Kd.R_drew); exact HO200.out) hb); have n1_ := Aside0.mk (Kd.R_elder' (by (with_reducible repeat first | apply Kd.R_alloc | apply Kd.R_drewN | apply Kd.R_drew); exact HO204.out) (Kd.R_base ho0) hb); have n2_ := Aside0.mk (Kd.R_lower (Kd.R_new' ho0 (Kd.R_lt (by (with_reducible repeat first | apply Kd.R_alloc | apply Kd.R_drewN | apply Kd.R_drew); exact HO204.out))) (below_size (by repeat (first | (with_reducible first | exact HB.out | apply below_alloc | apply pw_below_drewN | apply below_drew1 | refine below_set ?_ GE201.out) | exact HB.out)))); have n3_ := Aside0.mk (Kd.S_lower ho1 (below_size (by repeat (first | (with_reducible first | exact HB.out | apply below_alloc | apply pw_below_drewN | apply below_drew1 | refine below_set ?_ GE201.out) | exact HB.out)))); have n4_ := Aside0.mk (blk_below (g := gb201) (o := .cells #[.int .i64 t195, .int .i64 t196, .int .i64 t197, .slice Ao25 t198.length co25] 26 (0, 0)) (by (with_reducible repeat first | refine blk_drewN ?_ _ | refine blk_drew ?_ | refine blk_alloc ?_ _); exact BK201.out) hb); have n5_ := Aside0.mk (below_step (by repeat (first | (with_reducible first | exact HB.out | apply below_alloc | apply pw_below_drewN | apply below_drew1 | refine below_set ?_ GE201.out) | exact HB.out)) hb); clear HO200; clear HO204; clear BK201; clear HB; have HO200 := n0_; have HO204 := n1_; have HO213 := n2_; have HO216 := n3_; have BK201 := n4_; have HB := n5_; clear n0_ n1_ n2_ n3_ n4_ n5_; (try clear hb); (try clear hb2); (try clear hk); (try clear hi); (try clear ho0); (try clear ho1); have hcz35_0 : w34.cell? ⟨gb201, 0, none⟩ = some (.int .i64 t195) := (blk_cell BK201.out 0).trans rfl; have hcz35_1 : w34.cell? ⟨gb201, 1, none⟩ = some (.int .i64 t196) := (blk_cell BK201.out 1).trans rfl; have hcz35_2 : w34.cell? ⟨gb201, 2, none⟩ = some (.int .i64 t197) := (blk_cell BK201.out 2).trans rfl; have hcz35_3 : w34.cell? ⟨gb201, 3, none⟩ = some (.slice Ao25 t198.length co25) := (blk_cell BK201.out 3).trans rfl; have hfz35_0 := blk_frozen BK201.out 0; have hfz35_1 := blk_frozen BK201.out 1; have hfz35_2 := blk_frozen BK201.out 2; have hfz35_3 := blk_frozen BK201.out 3; obtain ⟨Ao36, co36, eo36⟩ := Kd.R_slice HO213.out; (first | subst eo36 | skip)) | ((with_reducible refine gate_callee (f := 28) rfl ?_); refine goesL_ (some 79) rfl rfl Try.func28 (by kernel_rfl) rfl #[.agg #[.int .i64 t195, .int .i64 t196, .int .i64 t197, .slice Ao25 t198.length co25], .slice Ao36 t211.length co36, .int .i64 (wrap64 (1 + (ji14)))] rfl (by (try simp only [List.map_toArray, List.map_cons, List.map_nil]); first | done | (simp only [hji14]; rfl) | rfl | (simp only [List.length_drop, List.length_take]; rfl)) ?_; (with_reducible refine (plain_Block.calls k t195 t196 t197 _ _ t198 _ _ t211 (wrap64 (1 + (ji14))) t218 t221 t224 _ ?side1 ?side2 ?side3 ?side4 A18.out).mono ?_); (case side1 => repeat (first | exact (Kd.R_reads' HO200.out).2.2 | (with_reducible refine Kd.C_alloc ?_ _) | (with_reducible refine Kd.C_drewN ?_ _) | (with_reducible refine Kd.C_drew ?_))); (case side2 => exact (Kd.R_reads' HO200.out).2.1); (case side3 => repeat (first | exact (Kd.R_reads' HO213.out).2.2 | (with_reducible refine Kd.C_alloc ?_ _) | (with_reducible refine Kd.C_drewN ?_ _) | (with_reducible refine Kd.C_drew ?_))); (case side4 => exact (Kd.R_reads' HO213.out).2.1); rintro e w37 ⟨v219, v222, rfl, ho0, ho1, hb⟩; refine ⟨_, rfl, ?_⟩; have n0_ := Aside0.mk (Kd.R_below (by (with_reducible repeat first | apply Kd.R_alloc | apply Kd.R_drewN | apply Kd.R_drew); exact HO200.out) hb); have n1_ := Aside0.mk (Kd.R_elder' (by (with_reducible repeat first | apply Kd.R_alloc | apply Kd.R_drewN | apply Kd.R_drew); exact HO204.out) (Kd.R_base ho0) hb); have n2_ := Aside0.mk (Kd.R_elder' (by (with_reducible repeat first | apply Kd.R_alloc | apply Kd.R_drewN | apply Kd.R_drew); exact HO213.out) (Kd.R_base ho0) hb); have n3_ := Aside0.mk (Kd.S_elder' (by (with_reducible repeat (first | apply Kd.S_alloc | apply Kd.S_drewN | apply Kd.S_drew)); exact HO216.out) (Kd.S_base ho1) hb); have n4_ := Aside0.mk (Kd.R_lower (Kd.R_new' (Kd.R_new' ho0 (Kd.R_lt (by (with_reducible repeat first | apply Kd.R_alloc | apply Kd.R_drewN | apply Kd.R_drew); exact HO204.out))) (Kd.R_lt (by (with_reducible repeat first | apply Kd.R_alloc | apply Kd.R_drewN | apply Kd.R_drew); exact HO213.out))) (below_size (by repeat (first | (with_reducible first | exact HB.out | apply below_alloc | apply pw_below_drewN | apply below_drew1 | refine below_set ?_ GE201.out) | exact HB.out)))); have n5_ := Aside0.mk (Kd.S_lower (Kd.S_new' ho1 (Kd.S_lt (by (with_reducible repeat (first | apply Kd.S_alloc | apply Kd.S_drewN | apply Kd.S_drew)); exact HO216.out))) (below_size (by repeat (first | (with_reducible first | exact HB.out | apply below_alloc | apply pw_below_drewN | apply below_drew1 | refine below_set ?_ GE201.out) | exact HB.out)))); have n6_ := Aside0.mk (blk_below (g := gb201) (o := .cells #[.int .i64 t195, .int .i64 t196, .int .i64 t197, .slice Ao25 t198.length co25] 26 (0, 0)) (by (with_reducible repeat first | refine blk_drewN ?_ _ | refine blk_drew ?_ | refine blk_alloc ?_ _); exact BK201.out) hb); have n7_ := Aside0.mk (below_step (by repeat (first | (with_reducible first | exact HB.out | apply below_alloc | apply pw_below_drewN | apply below_drew1 | refine below_set ?_ GE201.out) | exact HB.out)) hb); clear HO200; clear HO204; clear HO213; clear HO216; clear BK201; clear HB; have HO200 := n0_; have HO204 := n1_; have HO213 := n2_; have HO216 := n3_; have HO220 := n4_; have HO223 := n5_; have BK201 := n6_; have HB := n7_; clear n0_ n1_ n2_ n3_ n4_ n5_ n6_ n7_; (try clear hb); (try clear hb2); (try clear hk); (try clear hi); (try clear ho0); (try clear ho1); have hcz38_0 : w37.cell? ⟨gb201, 0, none⟩ = some (.int .i64 t195) := (blk_cell BK201.out 0).trans rfl; have hcz38_1 : w37.cell? ⟨gb201, 1, none⟩ = some (.int .i64 t196) := (blk_cell BK201.out 1).trans rfl; have hcz38_2 : w37.cell? ⟨gb201, 2, none⟩ = some (.int .i64 t197) := (blk_cell BK201.out 2).trans rfl; have hcz38_3 : w37.cell? ⟨gb201, 3, none⟩ = some (.slice Ao25 t198.length co25) := (blk_cell BK201.out 3).trans rfl; have hfz38_0 := blk_frozen BK201.out 0; have hfz38_1 := blk_frozen BK201.out 1; have hfz38_2 := blk_frozen BK201.out 2; have hfz38_3 := blk_frozen BK201.out 3) | ((with_reducible refine gate_callee (f := 28) rfl ?_); refine goesL_ (some 86) rfl rfl Try.func28 (by kernel_rfl) rfl #[.agg #[.int .i64 t195, .int .i64 t196, .int .i64 t197, .slice Ao25 t198.length co25], .slice Ao29 y202.length co29, .int .i64 4611686018427387904] rfl (by (try simp only [List.map_toArray, List.map_cons, List.map_nil]); first | done | rfl | (simp only [List.length_drop, List.length_take]; rfl)) ?_; (with_reducible refine (plain_Block.calls k t195 t196 t197 _ _ t198 _ _ y202 4611686018427387904 t225 t228 t231 _ ?side1 ?side2 ?side3 ?side4 A19.out).mono ?_); (case side1 => repeat (first | exact (Kd.R_reads' HO200.out).2.2 | (with_reducible refine Kd.C_alloc ?_ _) | (with_reducible refine Kd.C_drewN ?_ _) | (with_reducible refine Kd.C_drew ?_))); (case side2 => exact (Kd.R_reads' HO200.out).2.1); (case side3 => repeat (first | exact (Kd.R_reads' HO204.out).2.2 | (with_reducible refine Kd.C_alloc ?_ _) | (with_reducible refine Kd.C_drewN ?_ _) | (with_reducible refine Kd.C_drew ?_))); (case side4 => exact (Kd.R_reads' HO204.out).2.1); rintro e w39 ⟨v226, v229, rfl, ho0, ho1, hb⟩; refine ⟨_, rfl, ?_⟩; have n0_ := Aside0.mk (Kd.R_below (by (with_reducible repeat first | apply Kd.R_alloc | apply Kd.R_drewN | apply Kd.R_drew); exact HO200.out) hb); have n1_ := Aside0.mk (Kd.R_elder' (by (with_reducible repeat first | apply Kd.R_alloc | apply Kd.R_drewN | apply Kd.R_drew); exact HO204.out) (Kd.R_base ho0) hb); have n2_ := Aside0.mk (Kd.R_elder' (by (with_reducible repeat first | apply Kd.R_alloc | apply Kd.R_drewN | apply Kd.R_drew); exact HO213.out) (Kd.R_base ho0) hb); have n3_ := Aside0.mk (Kd.S_elder' (by (with_reducible repeat (first | apply Kd.S_alloc | apply Kd.S_drewN | apply Kd.S_drew)); exact HO216.out) (Kd.S_base ho1) hb); have n4_ := Aside0.mk (Kd.R_elder' (by (with_reducible repeat first | apply Kd.R_alloc | apply Kd.R_drewN | apply Kd.R_drew); exact HO220.out) (Kd.R_base ho0) hb); have n5_ := Aside0.mk (Kd.S_elder' (by (with_reducible repeat (first | apply Kd.S_alloc | apply Kd.S_drewN | apply Kd.S_drew)); exact HO223.out) (Kd.S_base ho1) hb); have n6_ := Aside0.mk (Kd.R_lower (Kd.R_new' (Kd.R_new' (Kd.R_new' ho0 (Kd.R_lt (by (with_reducible repeat first | apply Kd.R_alloc | apply Kd.R_drewN | apply Kd.R_drew); exact HO204.out))) (Kd.R_lt (by (with_reducible repeat first | apply Kd.R_alloc | apply Kd.R_drewN | apply Kd.R_drew); exact HO213.out))) (Kd.R_lt (by (with_reducible repeat first | apply Kd.R_alloc | apply Kd.R_drewN | apply Kd.R_drew); exact HO220.out))) (below_size (by repeat (first | (with_reducible first | exact HB.out | apply below_alloc | apply pw_below_drewN | apply below_drew1 | refine below_set ?_ GE201.out) | exact HB.out)))); have n7_ := Aside0.mk (Kd.S_lower (Kd.S_new' (Kd.S_new' ho1 (Kd.S_lt (by (with_reducible repeat (first | apply Kd.S_alloc | apply Kd.S_drewN | apply Kd.S_drew)); exact HO216.out))) (Kd.S_lt (by (with_reducible repeat (first | apply Kd.S_alloc | apply Kd.S_drewN | apply Kd.S_drew)); exact HO223.out))) (below_size (by repeat (first | (with_reducible first | exact HB.out | apply below_alloc | apply pw_below_drewN | apply below_drew1 | refine below_set ?_ GE201.out) | exact HB.out)))); have n8_ := Aside0.mk (blk_below (g := gb201) (o := .cells #[.int .i64 t195, .int .i64 t196, .int .i64 t197, .slice Ao25 t198.length co25] 26 (0, 0)) (by (with_reducible repeat first | refine blk_drewN ?_ _ | refine blk_drew ?_ | refine blk_alloc ?_ _); exact BK201.out) hb); have n9_ := Aside0.mk (below_step (by repeat (first | (with_reducible first | exact HB.out | apply below_alloc | apply pw_below_drewN | apply below_drew1 | refine below_set ?_ GE201.out) | exact HB.out)) hb); clear HO200; clear HO204; clear HO213; clear HO216; clear HO220; clear HO223; clear BK201; clear HB; have HO200 := n0_; have HO204 := n1_; have HO213 := n2_; have HO216 := n3_; have HO220 := n4_; have HO223 := n5_; have HO227 := n6_; have HO230 := n7_; have BK201 := n8_; have HB := n9_; clear n0_ n1_ n2_ n3_ n4_ n5_ n6_ n7_ n8_ n9_; (try clear hb); (try clear hb2); (try clear hk); (try clear hi); (try clear ho0); (try clear ho1)))
    (try simp only [Act.put, List.setIfInBounds_toArray, List.set_cons_zero, List.set_cons_succ])
    go_cut [110] (fun v110 wc => ∃ (kq : Nat) (x110_19 : Bool), v110 = .bool x110_19 ∧ Aside0 (racewaylaw8_PlainRooms.j0 kq t207 t209 t214 t221 x110_19 = some r) ∧ Aside0 (kq ≤ k) ∧ Aside0 (Kd.S k61 61 wc w.heap.size (fun k_ => some k_ ≠ (v222 : Value).ownBlock) v215 t214) ∧ Aside0 (Kd.S k61 61 wc w.heap.size (fun k_ => some k_ ≠ (v215 : Value).ownBlock) v222 t221) ∧ Aside0 (Kd.R k30 30 wc w.heap.size (fun _ => True) (.slice Ao25 t198.length co25) t198) ∧ Aside0 (wc.heap[gb201]? = some (.cells #[.int .i64 t195, .int .i64 t196, .int .i64 t197, (.slice Ao25 t198.length co25)] 26 (0, 0))) ∧ Aside0 (Below w.heap.size w wc))
    case first =>
     (have H := HC20.out);(clear HC20)
     by_cases c40 : t217 = 0
     ·(rw [if_pos c40] at H);(have c40b0 : (t217 == 0) = true := beq_iff_eq.mpr c40);(have c40b1 : (t217 != 0) = false := bne_eq_false_iff_eq.mpr c40);(clear c40);((first | rw [c40b0] | (simp only [i64_w, i32_w]; rw [c40b0]) | skip))
      by_cases c41 : t224 = 0
      ·(rw [if_pos c41] at H);(have c41b0 : (t224 == 0) = true := beq_iff_eq.mpr c41);(have c41b1 : (t224 != 0) = false := bne_eq_false_iff_eq.mpr c41);(clear c41)
       by_cases c42 : t231 = 0
       ·(rw [if_pos c42] at H);(have c42b0 : (t231 == 0) = true := beq_iff_eq.mpr c42);(have c42b1 : (t231 != 0) = false := bne_eq_false_iff_eq.mpr c42);(clear c42)
        by_cases c43 : (t228.length : Int) = 0
        ·(rw [if_pos c43] at H);(have c43b0 : ((t228.length : Int) == 0) = true := beq_iff_eq.mpr c43);(have c43b1 : ((t228.length : Int) != 0) = false := bne_eq_false_iff_eq.mpr c43);(clear c43);(replace H := Option.bind_eq_some_iff.mp H);(obtain ⟨t232, A440, H⟩ := H);(replace H : (racewaylaw8_PlainRooms.j0 k t207 t209 t214 t221 (!t232)) = some r := H);(have A44 := Aside0.mk A440);(clear A440)
         as_aux_lemma =>
          (have H' := Aside0.mk H);(clear H);(obtain ⟨Ao45, co45, eo45⟩ := Kd.S_slice HO230.out);(subst eo45);(obtain ⟨Ao46, co46, eo46⟩ := Kd.R_slice HO227.out);(subst eo46)
          go_wp2_with (first | (go_at_call 21; (with_reducible refine (racewayref5_Same.calls k _ _ t225 _ _ y202 t232 _ ?side1 ?side2 ?side3 ?side4 A44.out).mono ?_); (case side1 => repeat (first | exact (Kd.R_reads' HO227.out).2.2 | (with_reducible refine Kd.C_alloc ?_ _) | (with_reducible refine Kd.C_drewN ?_ _) | (with_reducible refine Kd.C_drew ?_))); (case side2 => exact (Kd.R_reads' HO227.out).2.1); (case side3 => repeat (first | exact (Kd.R_reads' HO204.out).2.2 | (with_reducible refine Kd.C_alloc ?_ _) | (with_reducible refine Kd.C_drewN ?_ _) | (with_reducible refine Kd.C_drew ?_))); (case side4 => exact (Kd.R_reads' HO204.out).2.1); rintro e w' ⟨rfl, ⟨nd, rfl⟩⟩))
          go_meet
          case rel => exact ⟨_, (!t232), (by first | rfl | (simp; done) | (simp [*]; done)), H', ⟨by first | omega | exact Nat.le_refl _⟩, ⟨by (with_reducible repeat (first | apply Kd.S_alloc | apply Kd.S_drewN | apply Kd.S_drew)); exact Kd.S_mono HO216.out (fun _ hk => hk.1.2)⟩, ⟨by (with_reducible repeat (first | apply Kd.S_alloc | apply Kd.S_drewN | apply Kd.S_drew)); exact Kd.S_mono HO223.out (fun _ hk => hk.1.2)⟩, ⟨by (with_reducible repeat first | apply Kd.R_alloc | apply Kd.R_drewN | apply Kd.R_drew); exact HO200.out⟩, ⟨by (with_reducible repeat first | refine blk_drewN ?_ _ | refine blk_drew ?_ | refine blk_alloc ?_ _); exact BK201.out⟩, ⟨by repeat (first | (with_reducible first | exact HB.out | apply below_alloc | apply pw_below_drewN | apply below_drew1 | refine below_set ?_ GE201.out) | exact HB.out)⟩⟩
        ·(rw [if_neg c43] at H);(have c43b0 : ((t228.length : Int) == 0) = false := beq_eq_false_iff_ne.mpr c43);(have c43b1 : ((t228.length : Int) != 0) = true := bne_iff_ne.mpr c43);(have c43b2 : ¬ (t228 = []) := fun h_ => c43 (by rw [h_]; rfl))
         as_aux_lemma =>
          (have H' := Aside0.mk H);(clear H);(obtain ⟨Ao47, co47, eo47⟩ := Kd.S_slice HO230.out);(subst eo47)
          go_wp2
          go_meet
          case rel => exact ⟨_, (true), (by first | rfl | (simp; done) | (simp [*]; done)), H', ⟨by first | omega | exact Nat.le_refl _⟩, ⟨by (with_reducible repeat (first | apply Kd.S_alloc | apply Kd.S_drewN | apply Kd.S_drew)); exact Kd.S_mono HO216.out (fun _ hk => hk.1.2)⟩, ⟨by (with_reducible repeat (first | apply Kd.S_alloc | apply Kd.S_drewN | apply Kd.S_drew)); exact Kd.S_mono HO223.out (fun _ hk => hk.1.2)⟩, ⟨by (with_reducible repeat first | apply Kd.R_alloc | apply Kd.R_drewN | apply Kd.R_drew); exact HO200.out⟩, ⟨by (with_reducible repeat first | refine blk_drewN ?_ _ | refine blk_drew ?_ | refine blk_alloc ?_ _); exact BK201.out⟩, ⟨by repeat (first | (with_reducible first | exact HB.out | apply below_alloc | apply pw_below_drewN | apply below_drew1 | refine below_set ?_ GE201.out) | exact HB.out)⟩⟩
       ·(rw [if_neg c42] at H);(have c42b0 : (t231 == 0) = false := beq_eq_false_iff_ne.mpr c42);(have c42b1 : (t231 != 0) = true := bne_iff_ne.mpr c42)
        as_aux_lemma =>
         (have H' := Aside0.mk H);(clear H)
         go_wp2
         go_meet
         case rel => exact ⟨_, (true), (by first | rfl | (simp; done) | (simp [*]; done)), H', ⟨by first | omega | exact Nat.le_refl _⟩, ⟨by (with_reducible repeat (first | apply Kd.S_alloc | apply Kd.S_drewN | apply Kd.S_drew)); exact Kd.S_mono HO216.out (fun _ hk => hk.1.2)⟩, ⟨by (with_reducible repeat (first | apply Kd.S_alloc | apply Kd.S_drewN | apply Kd.S_drew)); exact Kd.S_mono HO223.out (fun _ hk => hk.1.2)⟩, ⟨by (with_reducible repeat first | apply Kd.R_alloc | apply Kd.R_drewN | apply Kd.R_drew); exact HO200.out⟩, ⟨by (with_reducible repeat first | refine blk_drewN ?_ _ | refine blk_drew ?_ | refine blk_alloc ?_ _); exact BK201.out⟩, ⟨by repeat (first | (with_reducible first | exact HB.out | apply below_alloc | apply pw_below_drewN | apply below_drew1 | refine below_set ?_ GE201.out) | exact HB.out)⟩⟩
      ·(rw [if_neg c41] at H);(have c41b0 : (t224 == 0) = false := beq_eq_false_iff_ne.mpr c41);(have c41b1 : (t224 != 0) = true := bne_iff_ne.mpr c41)
       as_aux_lemma =>
        (have H' := Aside0.mk H);(clear H)
        go_wp2
        go_meet
        case rel => exact ⟨_, (true), (by first | rfl | (simp; done) | (simp [*]; done)), H', ⟨by first | omega | exact Nat.le_refl _⟩, ⟨by (with_reducible repeat (first | apply Kd.S_alloc | apply Kd.S_drewN | apply Kd.S_drew)); exact Kd.S_mono HO216.out (fun _ hk => hk.1.2)⟩, ⟨by (with_reducible repeat (first | apply Kd.S_alloc | apply Kd.S_drewN | apply Kd.S_drew)); exact Kd.S_mono HO223.out (fun _ hk => hk.1.2)⟩, ⟨by (with_reducible repeat first | apply Kd.R_alloc | apply Kd.R_drewN | apply Kd.R_drew); exact HO200.out⟩, ⟨by (with_reducible repeat first | refine blk_drewN ?_ _ | refine blk_drew ?_ | refine blk_alloc ?_ _); exact BK201.out⟩, ⟨by repeat (first | (with_reducible first | exact HB.out | apply below_alloc | apply pw_below_drewN | apply below_drew1 | refine below_set ?_ GE201.out) | exact HB.out)⟩⟩
     ·(rw [if_neg c40] at H);(have c40b0 : (t217 == 0) = false := beq_eq_false_iff_ne.mpr c40);(have c40b1 : (t217 != 0) = true := bne_iff_ne.mpr c40);((first | rw [c40b0] | (simp only [i64_w, i32_w]; rw [c40b0]) | skip))
      as_aux_lemma =>
       (have H' := Aside0.mk H);(clear H)
       go_wp2
       go_meet
       case rel => exact ⟨_, (true), (by first | rfl | (simp; done) | (simp [*]; done)), H', ⟨by first | omega | exact Nat.le_refl _⟩, ⟨by (with_reducible repeat (first | apply Kd.S_alloc | apply Kd.S_drewN | apply Kd.S_drew)); exact Kd.S_mono HO216.out (fun _ hk => hk.1.2)⟩, ⟨by (with_reducible repeat (first | apply Kd.S_alloc | apply Kd.S_drewN | apply Kd.S_drew)); exact Kd.S_mono HO223.out (fun _ hk => hk.1.2)⟩, ⟨by (with_reducible repeat first | apply Kd.R_alloc | apply Kd.R_drewN | apply Kd.R_drew); exact HO200.out⟩, ⟨by (with_reducible repeat first | refine blk_drewN ?_ _ | refine blk_drew ?_ | refine blk_alloc ?_ _); exact BK201.out⟩, ⟨by repeat (first | (with_reducible first | exact HB.out | apply below_alloc | apply pw_below_drewN | apply below_drew1 | refine below_set ?_ GE201.out) | exact HB.out)⟩⟩
    case rest =>
     clear HC20
     try clear c1
     try clear c2
     try clear p2
     try clear c3
     try clear c4
     try clear p6
     try clear c7
     try clear c9
     try clear c9b0
     try clear c9b1
     try clear c10
     try clear c10b0
     try clear c10b1
     try clear c24
     try clear c25
     try clear c27
     try clear c28
     try clear c31
     try clear c40
     try clear c40b0
     try clear c40b1
     try clear c41
     try clear c41b0
     try clear c41b1
     try clear c42
     try clear c42b0
     try clear c42b1
     try clear c43
     try clear c43b0
     try clear c43b1
     try clear c43b2
     try clear hcz24_0
     try clear hcz24_1
     try clear hcz24_2
     try clear hcz24_3
     try clear hcz28_0
     try clear hcz28_1
     try clear hcz28_2
     try clear hcz28_3
     try clear hcz31_0
     try clear hcz31_1
     try clear hcz31_2
     try clear hcz31_3
     try clear hcz33_0
     try clear hcz33_1
     try clear hcz33_2
     try clear hcz33_3
     try clear hcz35_0
     try clear hcz35_1
     try clear hcz35_2
     try clear hcz35_3
     try clear hcz38_0
     try clear hcz38_1
     try clear hcz38_2
     try clear hcz38_3
     try clear hfz24_0
     try clear hfz24_1
     try clear hfz24_2
     try clear hfz24_3
     try clear hfz28_0
     try clear hfz28_1
     try clear hfz28_2
     try clear hfz28_3
     try clear hfz31_0
     try clear hfz31_1
     try clear hfz31_2
     try clear hfz31_3
     try clear hfz33_0
     try clear hfz33_1
     try clear hfz33_2
     try clear hfz33_3
     try clear hfz35_0
     try clear hfz35_1
     try clear hfz35_2
     try clear hfz35_3
     try clear hfz38_0
     try clear hfz38_1
     try clear hfz38_2
     try clear hfz38_3
     obtain ⟨kq, x110_19, rfl, HA, HJ19, HO_21, HO_24, HO_202003, BK201, HB⟩ := hcut
     cases kq with
     | zero => exact absurd HA.out (by simp [racewaylaw8_PlainRooms.j0])
     | succ kj19 =>
      (have H := HA.out);(clear HA);(simp only [racewaylaw8_PlainRooms.j0] at H)
      by_cases c48 : x110_19 = true
      ·(subst c48);(have H1 : (some false) = some r := by rw [if_pos rfl] at H; exact H);(clear H);(have H := H1);(clear H1);(exact absurd ((Option.some.inj H).trans hrT_.out) (by simp))
      ·(replace c48 := Bool.eq_false_iff.mpr c48);(subst c48);(have H1 : (racewaylaw8_PlainRooms.l0 kj19 t207 t209 t214 t221 0) = some r := by rw [if_neg (show ¬ (false = true) by decide)] at H; exact H);(clear H);(have H := H1);(clear H1);(have H' := Aside0.mk H);(clear H)
       go_wp2
       go_loopg [29] kj19 (fun kq v29 w' => ∃ (x29_2 : Int), v29 = .int .i64 x29_2 ∧ Aside0 (racewaylaw8_PlainRooms.l0 kq t207 t209 t214 t221 x29_2 = some r) ∧ Aside0 (kq ≤ kj19) ∧ Aside0 (Kd.S k61 61 w' w.heap.size (fun k_ => some k_ ≠ (v222 : Value).ownBlock) v215 t214) ∧ Aside0 (Kd.S k61 61 w' w.heap.size (fun k_ => some k_ ≠ (v215 : Value).ownBlock) v222 t221) ∧ Aside0 (Kd.R k30 30 w' w.heap.size (fun _ => True) (.slice Ao25 t198.length co25) t198) ∧ Aside0 (w'.heap[gb201]? = some (.cells #[.int .i64 t195, .int .i64 t196, .int .i64 t197, (.slice Ao25 t198.length co25)] 26 (0, 0))) ∧ Aside0 (Below w.heap.size w w'))
       case atStart => exact ⟨(0), (by first | rfl | (simp; done) | (simp [*]; done)), H', ⟨Nat.le_refl _⟩, ⟨by (with_reducible repeat (first | apply Kd.S_alloc | apply Kd.S_drewN | apply Kd.S_drew)); exact HO_21.out⟩, ⟨by (with_reducible repeat (first | apply Kd.S_alloc | apply Kd.S_drewN | apply Kd.S_drew)); exact HO_24.out⟩, ⟨by (with_reducible repeat first | apply Kd.R_alloc | apply Kd.R_drewN | apply Kd.R_drew); exact HO_202003.out⟩, ⟨by (with_reducible repeat first | refine blk_drewN ?_ _ | refine blk_drew ?_ | refine blk_alloc ?_ _); exact BK201.out⟩, ⟨by repeat (first | (with_reducible first | exact HB.out | apply below_alloc | apply pw_below_drewN | apply below_drew1 | refine below_set ?_ GE201.out) | exact HB.out)⟩⟩
       case round =>
        clear H'
        try clear c1
        try clear c2
        try clear p2
        try clear c3
        try clear c4
        try clear p6
        try clear c7
        try clear c9
        try clear c9b0
        try clear c9b1
        try clear c10
        try clear c10b0
        try clear c10b1
        try clear c24
        try clear c25
        try clear c27
        try clear c28
        try clear c31
        try clear c40
        try clear c40b0
        try clear c40b1
        try clear c41
        try clear c41b0
        try clear c41b1
        try clear c42
        try clear c42b0
        try clear c42b1
        try clear c43
        try clear c43b0
        try clear c43b1
        try clear c43b2
        try clear c48
        try clear hcz24_0
        try clear hcz24_1
        try clear hcz24_2
        try clear hcz24_3
        try clear hcz28_0
        try clear hcz28_1
        try clear hcz28_2
        try clear hcz28_3
        try clear hcz31_0
        try clear hcz31_1
        try clear hcz31_2
        try clear hcz31_3
        try clear hcz33_0
        try clear hcz33_1
        try clear hcz33_2
        try clear hcz33_3
        try clear hcz35_0
        try clear hcz35_1
        try clear hcz35_2
        try clear hcz35_3
        try clear hcz38_0
        try clear hcz38_1
        try clear hcz38_2
        try clear hcz38_3
        try clear hfz24_0
        try clear hfz24_1
        try clear hfz24_2
        try clear hfz24_3
        try clear hfz28_0
        try clear hfz28_1
        try clear hfz28_2
        try clear hfz28_3
        try clear hfz31_0
        try clear hfz31_1
        try clear hfz31_2
        try clear hfz31_3
        try clear hfz33_0
        try clear hfz33_1
        try clear hfz33_2
        try clear hfz33_3
        try clear hfz35_0
        try clear hfz35_1
        try clear hfz35_2
        try clear hfz35_3
        try clear hfz38_0
        try clear hfz38_1
        try clear hfz38_2
        try clear hfz38_3
        try clear p2
        try clear p6
        obtain ⟨x29_2, rfl, HA, HK2, HO_21, HO_24, HO_202003, BK201, HB⟩ := hrel
        cases gk with
        | zero => exact absurd HA.out (by simp [racewaylaw8_PlainRooms.l0])
        | succ k2 =>
         (have H := HA.out);(clear HA);(simp only [racewaylaw8_PlainRooms.l0] at H)
         by_cases c49 : x29_2 < (t221.length : Int)
         ·(rw [if_pos c49] at H);(have c49b0 : decide (x29_2 < (t221.length : Int)) = true := decide_eq_true c49);(clear c49)
          by_cases c50 : 0 ≤ x29_2
          ·(rw [if_pos c50] at H);(have c50b0 : decide (0 ≤ x29_2) = true := decide_eq_true c50);(clear c50)
           by_cases c51 : (((rd_T61 t221 x29_2).f0).length : Int) ≤ t207
           ·(rw [if_pos c51] at H);(have c51b0 : decide ((((rd_T61 t221 x29_2).f0).length : Int) ≤ t207) = true := decide_eq_true c51);(clear c51);(exact absurd ((Option.some.inj H).trans hrT_.out) (by simp))
           ·(rw [if_neg c51] at H);(have c51b0 : decide ((((rd_T61 t221 x29_2).f0).length : Int) ≤ t207) = false := decide_eq_false c51);(clear c51)
            as_aux_lemma =>
             (have H' := Aside0.mk H);(clear H);(obtain ⟨Ao52, co52, eo52⟩ := Kd.S_slice HO_24.out);(subst eo52);(have p233 : 0 ≤ (x29_2 : Int) := of_decide_eq_true (by first | (with_reducible assumption) | assumption));(have q233 : x29_2 < (t221.length : Int) := of_decide_eq_true (by first | (with_reducible assumption) | assumption));(obtain ⟨ad233, A233_0, c233_0, e233, hx233_0, hx233_1, hl233_0, hi233_0⟩ := at_T61 (Kd.S_reads' HO_24.out).2.2 x29_2 p233 q233);(cases e233);(obtain ⟨ce233, hce233, hMe233, hcc233⟩ := Kd.S_get HO_24.out z61 x29_2 p233 (by first | exact q233 | exact of_decide_eq_true (by first | (with_reducible assumption) | assumption) | (have e_ := (Kd.S_reads' HO_24.out).1; omega)));(obtain ⟨ve233_0, rfl, ge233_0⟩ := k61_openM hMe233);(have hv233_0 := hcc233 0 _ rfl);(rw [Nat.add_zero] at hv233_0);(replace hv233_0 := Option.some.inj (hv233_0.symm.trans hx233_0));(rw [hv233_0] at ge233_0);(have HL233_0 := Aside0.mk (show Kd.R (Kd.int .i64) 3 _ _ _ _ ((rd_T61 t221 x29_2).f0) from ge233_0));(clear hv233_0 ge233_0);(clear hcc233 hce233);(have HR233_0 := Aside0.mk hi233_0);(have HC233_0 := Aside0.mk hl233_0);(clear hi233_0 hl233_0);(replace p233 := eq_true p233);(replace q233 := eq_true q233)
             go_wp2
             go_roundg k2
             case measure => have := HJ19.out; have := HK2.out; omega
             case rel => exact ⟨(wrap64 (x29_2 + 1)), (by first | rfl | (simp; done) | (simp [*]; done)), H', ⟨by have := HJ19.out; have := HK2.out; omega⟩, ⟨by (with_reducible repeat (first | apply Kd.S_alloc | apply Kd.S_drewN | apply Kd.S_drew)); exact HO_21.out⟩, ⟨by (with_reducible repeat (first | apply Kd.S_alloc | apply Kd.S_drewN | apply Kd.S_drew)); exact HO_24.out⟩, ⟨by (with_reducible repeat first | apply Kd.R_alloc | apply Kd.R_drewN | apply Kd.R_drew); exact HO_202003.out⟩, ⟨by (with_reducible repeat first | refine blk_drewN ?_ _ | refine blk_drew ?_ | refine blk_alloc ?_ _); exact BK201.out⟩, ⟨by repeat (first | (with_reducible first | exact HB.out | apply below_alloc | apply pw_below_drewN | apply below_drew1 | refine below_set ?_ GE201.out) | exact HB.out)⟩⟩
          ·(rw [if_neg c50] at H);(exact absurd H (by simp))
         ·(rw [if_neg c49] at H);(have c49b0 : decide (x29_2 < (t221.length : Int)) = false := decide_eq_false c49);(clear c49)
          by_cases c53 : t209 < 0
          ·(rw [if_pos c53] at H);(have c53b0 : decide (t209 < 0) = true := decide_eq_true c53);(clear c53)
           by_cases c54 : (t214.length : Int) > 0
           ·(rw [if_pos c54] at H);(have c54b0 : decide (0 < (t214.length : Int)) = true := decide_eq_true c54);(have c54b1 : decide (0 < t214.length) = true := decide_eq_true (by omega));(clear c54)
            by_cases c55 : t207 ≥ 0
            ·(rw [if_pos c55] at H);(have c55b0 : decide (0 ≤ t207) = true := decide_eq_true c55);(clear c55)
             as_aux_lemma =>
              (obtain rfl := Option.some.inj H);(obtain ⟨Ao56, co56, eo56⟩ := Kd.S_slice HO_24.out);(subst eo56);(obtain ⟨Ao57, co57, eo57⟩ := Kd.S_slice HO_21.out);(subst eo57)
              go_wp2
              go_ret
              exact ⟨by first | rfl | (simp [errW_none, errW_some] <;> rfl) | (simp only [← hji13, ← hji14]; first | rfl | (simp [errW_none, errW_some] <;> rfl)) | (simp [*, errW_none, errW_some] <;> rfl), by repeat (first | (with_reducible first | exact HB.out | apply below_alloc | apply pw_below_drewN | apply below_drew1 | refine below_set ?_ GE201.out) | exact HB.out)⟩
            ·(rw [if_neg c55] at H);(have c55b0 : decide (0 ≤ t207) = false := decide_eq_false c55);(clear c55);(exact absurd ((Option.some.inj H).trans hrT_.out) (by simp))
           ·(rw [if_neg c54] at H);(have c54b0 : decide (0 < (t214.length : Int)) = false := decide_eq_false c54);(have c54b1 : decide (0 < t214.length) = false := decide_eq_false (by omega));(clear c54)
            by_cases c58 : t207 ≥ 0
            ·(rw [if_pos c58] at H);(have c58b0 : decide (0 ≤ t207) = true := decide_eq_true c58);(clear c58);(exact absurd ((Option.some.inj H).trans hrT_.out) (by simp))
            ·(rw [if_neg c58] at H);(have c58b0 : decide (0 ≤ t207) = false := decide_eq_false c58);(clear c58)
             as_aux_lemma =>
              (obtain rfl := Option.some.inj H);(obtain ⟨Ao59, co59, eo59⟩ := Kd.S_slice HO_24.out);(subst eo59);(obtain ⟨Ao60, co60, eo60⟩ := Kd.S_slice HO_21.out);(subst eo60)
              go_wp2
              go_ret
              exact ⟨by first | rfl | (simp [errW_none, errW_some] <;> rfl) | (simp only [← hji13, ← hji14]; first | rfl | (simp [errW_none, errW_some] <;> rfl)) | (simp [*, errW_none, errW_some] <;> rfl), by repeat (first | (with_reducible first | exact HB.out | apply below_alloc | apply pw_below_drewN | apply below_drew1 | refine below_set ?_ GE201.out) | exact HB.out)⟩
          ·(rw [if_neg c53] at H);(have c53b0 : decide (t209 < 0) = false := decide_eq_false c53);(clear c53)
           by_cases c61 : t207 ≥ 0
           ·(rw [if_pos c61] at H);(have c61b0 : decide (0 ≤ t207) = true := decide_eq_true c61);(clear c61)
            by_cases c62 : t207 ≤ t209
            ·(rw [if_pos c62] at H);(have c62b0 : decide (t207 ≤ t209) = true := decide_eq_true c62);(clear c62)
             by_cases c63 : (t214.length : Int) > 0
             ·(rw [if_pos c63] at H);(have c63b0 : decide (0 < (t214.length : Int)) = true := decide_eq_true c63);(have c63b1 : decide (0 < t214.length) = true := decide_eq_true (by omega));(clear c63)
              as_aux_lemma =>
               (obtain rfl := Option.some.inj H);(obtain ⟨Ao64, co64, eo64⟩ := Kd.S_slice HO_24.out);(subst eo64);(obtain ⟨Ao65, co65, eo65⟩ := Kd.S_slice HO_21.out);(subst eo65)
               go_wp2
               go_ret
               exact ⟨by first | rfl | (simp [errW_none, errW_some] <;> rfl) | (simp only [← hji13, ← hji14]; first | rfl | (simp [errW_none, errW_some] <;> rfl)) | (simp [*, errW_none, errW_some] <;> rfl), by repeat (first | (with_reducible first | exact HB.out | apply below_alloc | apply pw_below_drewN | apply below_drew1 | refine below_set ?_ GE201.out) | exact HB.out)⟩
             ·(rw [if_neg c63] at H);(have c63b0 : decide (0 < (t214.length : Int)) = false := decide_eq_false c63);(have c63b1 : decide (0 < t214.length) = false := decide_eq_false (by omega));(clear c63);(exact absurd ((Option.some.inj H).trans hrT_.out) (by simp))
            ·(rw [if_neg c62] at H);(have c62b0 : decide (t207 ≤ t209) = false := decide_eq_false c62);(clear c62);(exact absurd ((Option.some.inj H).trans hrT_.out) (by simp))
           ·(rw [if_neg c61] at H);(have c61b0 : decide (0 ≤ t207) = false := decide_eq_false c61);(clear c61);(exact absurd ((Option.some.inj H).trans hrT_.out) (by simp))
   ·(rw [if_neg c10] at H);(exact absurd H (by simp))
  ·rw [if_neg c9] at H
   exact absurd H (by simp)
 ·replace c7 := Bool.eq_false_iff.mpr c7
  subst c7
  have H1 : (some false) = some r := by rw [if_neg (show ¬ (false = true) by decide)] at H; exact H
  clear H
  have H := H1
  clear H1
  exact absurd ((Option.some.inj H).trans hrT_.out) (by simp)
/-- THE ONE PURE STATEMENT of racewaylaw8_PlainRooms. -/
def racewaylaw8_PlainRooms.Pure : Prop := ∀ (a0 : Int) (a1 : Int) (l2 : List (S91)) (a3 : Int) (a4 : Int), (Lit.int .i64 a0).wf = true → (Lit.int .i64 a1).wf = true → l2.length ≤ maxLen → (∀ x ∈ l2, (Lit.int .i64 x.f0).wf = true ∧ (Lit.int .i64 x.f1).wf = true ∧ (Lit.int .i64 x.f2).wf = true) → (Lit.int .i64 a3).wf = true → (Lit.int .i64 a4).wf = true → ∃ k, racewaylaw8_PlainRooms.f k a0 a1 l2 a3 a4 = some true
theorem racewaylaw8_PlainRooms.walk (P : racewaylaw8_PlainRooms.Pure) (a0 : Int) (a1 : Int) (A2 : Option Addr) (c2 : Nat) (l2 : List (S91)) (a3 : Int) (a4 : Int) (w : World) (w0 : (Lit.int .i64 a0).wf = true) (w1 : (Lit.int .i64 a1).wf = true) (hr2 : Kd.C k91 w A2 l2.length l2) (hc2 : l2.length ≤ c2) (hm2 : l2.length ≤ maxLen) (hw2 : (∀ x ∈ l2, (Lit.int .i64 x.f0).wf = true ∧ (Lit.int .i64 x.f1).wf = true ∧ (Lit.int .i64 x.f2).wf = true)) (w3 : (Lit.int .i64 a3).wf = true) (w4 : (Lit.int .i64 a4).wf = true) :
  Calls Try.prog 10 #[.int .i64 a0, .int .i64 a1, .slice A2 l2.length c2, .int .i64 a3, .int .i64 a4] w fun e w' => e = .returned (.bool true) ∧ Below w.heap.size w w' := by
 obtain ⟨k, h⟩ := P a0 a1 l2 a3 a4 w0 w1 hm2 hw2 w3 w4
 refine (racewaylaw8_PlainRooms.calls k a0 a1 _ _ l2 a3 a4 true w hr2 hc2 h ⟨rfl⟩).mono ?_
 rintro e w' ⟨rfl, hd⟩
 exact ⟨rfl, hd⟩
end Go.Proofs.Ytdiaedecnfbgdaa.PPlainRooms
