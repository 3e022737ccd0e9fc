/- For the law DecompTwice, for every input: printed by a program (wip/myprint), contracts by hand where it says MANUAL. -/
-- slim
import Derived.Test.YtnjdjnoncoeffaaPDecompTwicex0
import Derived.Test.YtnjdjnoncoeffaaPDecompTwicex18
import Derived.Test.YtnjdjnoncoeffaaPDecompTwicex19
import Derived.Test.YtnjdjnoncoeffaaPDecompTwicex21
import Derived.Test.YtnjdjnoncoeffaaPDecompTwicex23
import Derived.Test.YtnjdjnoncoeffaaPDecompTwicex25
import Derived.Test.YtnjdjnoncoeffaaPDecompTwicex26
import Derived.Test.YtnjdjnoncoeffaaPDecompTwicex27
namespace Go.Proofs.Ytnjdjnoncoeffaa.PDecompTwice
open Go.RowKit Go.Proofs.YtnjdjnoncoeffaaW.PrintWords Go.Proofs.YtnjdjnoncoeffaaW.PrintLast Go.Proofs.YtnjdjnoncoeffaaW.PrintMore
attribute [local go_sem] max2_int min2_int max_two min_two max_three min_three max_four min_four
set_option linter.unusedVariables false
set_option linter.unusedSimpArgs false
/-! ### racewaylaw15_DecompTwice: function 6 -/
def racewaylaw15_DecompTwice.j0 : Nat → List (S36) → Bool → Int → Int → Int → List (S30) → Option (Bool)
 | 0, _, _, _, _, _, _ => none
 | k + 1, x12, x67, x242000, x242001, x242002, x242003 => if x67 = true then (some false) else (if (x12.length : Int) = 0 then (some true) else (if 1 ≤ (x12.length : Int) then ((decomp_Sum.f k x242000 x242001 x242002 x242003 (x12.drop 1)).bind fun bt269 => ((decomp_Split.f k x242000 x242001 x242002 x242003 bt269.1).bind fun bt273 => (if bt269.2 = 0 then (if bt273.2 = 0 then ((racewaylaw15_as.f k bt273.1).bind fun t277 => ((racewaylaw15_as.f k (x12.drop 1)).bind fun t285 => ((racewayref15_Same.f k t277 t285).bind fun t288 => (some t288)))) else (some false)) else (some false)))) else (none)))
def racewaylaw15_DecompTwice.f (k : Nat) (a0 : Int) (a1 : Int) (l2 : List (S61)) (l3 : List Int) : Option (Bool) := (racewaylaw15_shown.f k).bind fun t234 => (if t234 = true then ((racewaylaw15_made.f k a0 a1 l2).bind fun bt235 => ((racewaylaw15_routed.f k bt235.1 bt235.2.1 bt235.2.2.1 bt235.2.2.2 l3).bind fun t242 => ((decomp_Split.f k bt235.1 bt235.2.1 bt235.2.2.1 bt235.2.2.2 t242).bind fun bt245 => ((decomp_Sum.f k bt235.1 bt235.2.1 bt235.2.2.1 bt235.2.2.2 bt245.1).bind fun bt249 => ((decomp_Split.f k bt235.1 bt235.2.1 bt235.2.2.1 bt235.2.2.2 bt249.1).bind fun bt253 => (if bt245.2 = 0 then (if bt249.2 = 0 then (if bt253.2 = 0 then ((racewaylaw15_as.f k bt245.1).bind fun t257 => ((racewaylaw15_as.f k bt253.1).bind fun t260 => ((racewayref15_Same.f k t257 t260).bind fun t263 => (racewaylaw15_DecompTwice.j0 k bt245.1 (!t263) bt235.1 bt235.2.1 bt235.2.2.1 bt235.2.2.2)))) else (racewaylaw15_DecompTwice.j0 k bt245.1 true bt235.1 bt235.2.1 bt235.2.2.1 bt235.2.2.2)) else (racewaylaw15_DecompTwice.j0 k bt245.1 true bt235.1 bt235.2.1 bt235.2.2.1 bt235.2.2.2)) else (racewaylaw15_DecompTwice.j0 k bt245.1 true bt235.1 bt235.2.1 bt235.2.2.1 bt235.2.2.2))))))) else (some false))
theorem racewaylaw15_DecompTwice.mono_l : ∀ k, (∀ y0 y1 y2 y3 y4 y5, LeO (racewaylaw15_DecompTwice.j0 k y0 y1 y2 y3 y4 y5) (racewaylaw15_DecompTwice.j0 (k + 1) y0 y1 y2 y3 y4 y5))
 | 0 => fun _ _ _ _ _ _ r h => by simp [racewaylaw15_DecompTwice.j0] at h
 | k + 1 => by
  have ih0 := racewaylaw15_DecompTwice.mono_l k
  ·intro y0 y1 y2 y3 y4 y5
   unfold racewaylaw15_DecompTwice.j0
   repeat' first
   | (with_reducible exact ih0 _ _ _ _ _ _)
   | (with_reducible exact decomp_Split.mono _ _ _ _ _ _)
   | (with_reducible exact decomp_Sum.mono _ _ _ _ _ _)
   | (with_reducible exact racewaylaw15_as.mono _ _)
   | (with_reducible exact racewaylaw15_made.mono _ _ _ _)
   | (with_reducible exact racewaylaw15_routed.mono _ _ _ _ _ _)
   | (with_reducible exact racewaylaw15_shown.mono _)
   | (with_reducible exact racewayref15_Same.mono _ _ _)
   | (with_reducible exact LeO.refl _)
   | (with_reducible exact LeO.none _)
   | (with_reducible refine LeO.ite ?_ ?_)
   | (with_reducible refine LeO.bind ?_ (fun _ => ?_))
   | exact ih0 _ _ _ _ _ _
   | exact decomp_Split.mono _ _ _ _ _ _
   | exact decomp_Sum.mono _ _ _ _ _ _
   | exact racewaylaw15_as.mono _ _
   | exact racewaylaw15_made.mono _ _ _ _
   | exact racewaylaw15_routed.mono _ _ _ _ _ _
   | exact racewaylaw15_shown.mono _
   | exact racewayref15_Same.mono _ _ _
   | exact LeO.none _
   | refine LeO.ite ?_ ?_
   | refine LeO.bind ?_ (fun _ => ?_)
theorem racewaylaw15_DecompTwice.mono : ∀ a0 a1 a2 a3 k, LeO (racewaylaw15_DecompTwice.f k a0 a1 a2 a3) (racewaylaw15_DecompTwice.f (k + 1) a0 a1 a2 a3) := by
 intro a0 a1 a2 a3 k
 have ih0 := racewaylaw15_DecompTwice.mono_l k
 unfold racewaylaw15_DecompTwice.f
 repeat' first
   | (with_reducible exact ih0 _ _ _ _ _ _)
   | (with_reducible exact decomp_Split.mono _ _ _ _ _ _)
   | (with_reducible exact decomp_Sum.mono _ _ _ _ _ _)
   | (with_reducible exact racewaylaw15_as.mono _ _)
   | (with_reducible exact racewaylaw15_made.mono _ _ _ _)
   | (with_reducible exact racewaylaw15_routed.mono _ _ _ _ _ _)
   | (with_reducible exact racewaylaw15_shown.mono _)
   | (with_reducible exact racewayref15_Same.mono _ _ _)
   | (with_reducible exact LeO.refl _)
   | (with_reducible exact LeO.none _)
   | (with_reducible refine LeO.ite ?_ ?_)
   | (with_reducible refine LeO.bind ?_ (fun _ => ?_))
   | exact ih0 _ _ _ _ _ _
   | exact decomp_Split.mono _ _ _ _ _ _
   | exact decomp_Sum.mono _ _ _ _ _ _
   | exact racewaylaw15_as.mono _ _
   | exact racewaylaw15_made.mono _ _ _ _
   | exact racewaylaw15_routed.mono _ _ _ _ _ _
   | exact racewaylaw15_shown.mono _
   | exact racewayref15_Same.mono _ _ _
   | exact LeO.none _
   | refine LeO.ite ?_ ?_
   | refine LeO.bind ?_ (fun _ => ?_)
def racewaylaw15_DecompTwice.T13 : Bool × List (List Nat × List Nat) := (true, [([], []), ([], []), ([1], [1]), ([0, 2], [0, 2]), ([3], [3]), ([4], [4]), ([4], [4]), ([5, 3, 0, 1, 2, 3, 4, 5], [5]), ([6, 7, 0, 1, 2, 3, 4, 5, 6, 7], [6])])
def racewaylaw15_DecompTwice.B13 : List Nat := [0, 0, 2, 7, 15, 31, 31, 63, 255]
theorem racewaylaw15_DecompTwice.tab13 : rtab .any (opsOf Try.f6 13) = racewaylaw15_DecompTwice.T13 := by kernel_rfl
theorem racewaylaw15_DecompTwice.bits13 : waitsOk racewaylaw15_DecompTwice.T13.2 racewaylaw15_DecompTwice.B13 = true := by kernel_rfl
def racewaylaw15_DecompTwice.T15 : Bool × List (List Nat × List Nat) := (true, [([], []), ([0], [0]), ([1], [1]), ([2], [2]), ([3, 2], [2, 3]), ([2, 4], [2, 4]), ([5, 2], [5]), ([6], [6]), ([7, 6, 6], [6, 7]), ([6], [6]), ([9, 6], [6, 9]), ([10, 8, 6], [6, 10]), ([8, 11, 11, 6], [6, 8, 11]), ([6, 12], [6, 12]), ([13, 12, 0, 1, 2, 3, 4, 5, 6, 7, 8, 9, 10, 11, 12, 13], [13])])
def racewaylaw15_DecompTwice.B15 : List Nat := [0, 1, 3, 7, 15, 31, 63, 127, 255, 127, 639, 2047, 4095, 8191, 16383]
theorem racewaylaw15_DecompTwice.tab15 : rtab .any (opsOf Try.f6 15) = racewaylaw15_DecompTwice.T15 := by kernel_rfl
theorem racewaylaw15_DecompTwice.bits15 : waitsOk racewaylaw15_DecompTwice.T15.2 racewaylaw15_DecompTwice.B15 = true := by kernel_rfl
set_option maxHeartbeats 8000000 in
set_option maxRecDepth 100000 in
theorem racewaylaw15_DecompTwice.calls (k : Nat) (a0 : Int) (a1 : Int) (A2 : Option Addr) (c2 : Nat) (l2 : List (S61)) (A3 : Option Addr) (c3 : Nat) (l3 : List Int) (r : Bool) (w : World) (hr2 : Kd.C k61 w A2 l2.length l2) (hc2 : l2.length ≤ c2) (hr3 : Kd.C (Kd.int .i64) w A3 l3.length l3) (hc3 : l3.length ≤ c3) (h : racewaylaw15_DecompTwice.f k a0 a1 l2 l3 = some r) (hrT_ : Aside0 (r = true)) :
  Calls Try.prog 6 #[.int .i64 a0, .int .i64 a1, .slice A2 l2.length c2, .slice A3 l3.length c3] w fun e w' => e = .returned (.bool r) ∧ Below w.heap.size w w' := by
 have hu26 := Try.underlying26
 have HR2 := Aside0.mk hr2
 have HC2 := Aside0.mk hc2
 clear hr2 hc2
 have HR3 := Aside0.mk hr3
 have HC3 := Aside0.mk hc3
 clear hr3 hc3
 have HB := Aside0.mk (Below.refl w.heap.size w)
 have H : ((racewaylaw15_shown.f k).bind fun t234 => (if t234 = true then ((racewaylaw15_made.f k a0 a1 l2).bind fun bt235 => ((racewaylaw15_routed.f k bt235.1 bt235.2.1 bt235.2.2.1 bt235.2.2.2 l3).bind fun t242 => ((decomp_Split.f k bt235.1 bt235.2.1 bt235.2.2.1 bt235.2.2.2 t242).bind fun bt245 => ((decomp_Sum.f k bt235.1 bt235.2.1 bt235.2.2.1 bt235.2.2.2 bt245.1).bind fun bt249 => ((decomp_Split.f k bt235.1 bt235.2.1 bt235.2.2.1 bt235.2.2.2 bt249.1).bind fun bt253 => (if bt245.2 = 0 then (if bt249.2 = 0 then (if bt253.2 = 0 then ((racewaylaw15_as.f k bt245.1).bind fun t257 => ((racewaylaw15_as.f k bt253.1).bind fun t260 => ((racewayref15_Same.f k t257 t260).bind fun t263 => (racewaylaw15_DecompTwice.j0 k bt245.1 (!t263) bt235.1 bt235.2.1 bt235.2.2.1 bt235.2.2.2)))) else (racewaylaw15_DecompTwice.j0 k bt245.1 true bt235.1 bt235.2.1 bt235.2.2.1 bt235.2.2.2)) else (racewaylaw15_DecompTwice.j0 k bt245.1 true bt235.1 bt235.2.1 bt235.2.2.1 bt235.2.2.2)) else (racewaylaw15_DecompTwice.j0 k bt245.1 true bt235.1 bt235.2.1 bt235.2.2.1 bt235.2.2.2))))))) else (some false))) = some r := h
 clear h
 replace H := Option.bind_eq_some_iff.mp H
 obtain ⟨t234, A50, H⟩ := H
 replace H : (if t234 = true then ((racewaylaw15_made.f k a0 a1 l2).bind fun bt235 => ((racewaylaw15_routed.f k bt235.1 bt235.2.1 bt235.2.2.1 bt235.2.2.2 l3).bind fun t242 => ((decomp_Split.f k bt235.1 bt235.2.1 bt235.2.2.1 bt235.2.2.2 t242).bind fun bt245 => ((decomp_Sum.f k bt235.1 bt235.2.1 bt235.2.2.1 bt235.2.2.2 bt245.1).bind fun bt249 => ((decomp_Split.f k bt235.1 bt235.2.1 bt235.2.2.1 bt235.2.2.2 bt249.1).bind fun bt253 => (if bt245.2 = 0 then (if bt249.2 = 0 then (if bt253.2 = 0 then ((racewaylaw15_as.f k bt245.1).bind fun t257 => ((racewaylaw15_as.f k bt253.1).bind fun t260 => ((racewayref15_Same.f k t257 t260).bind fun t263 => (racewaylaw15_DecompTwice.j0 k bt245.1 (!t263) bt235.1 bt235.2.1 bt235.2.2.1 bt235.2.2.2)))) else (racewaylaw15_DecompTwice.j0 k bt245.1 true bt235.1 bt235.2.1 bt235.2.2.1 bt235.2.2.2)) else (racewaylaw15_DecompTwice.j0 k bt245.1 true bt235.1 bt235.2.1 bt235.2.2.1 bt235.2.2.2)) else (racewaylaw15_DecompTwice.j0 k bt245.1 true bt235.1 bt235.2.1 bt235.2.2.1 bt235.2.2.2))))))) else (some false)) = some r := H
 have A5 := Aside0.mk A50
 clear A50
 by_cases c6 : t234 = true
 ·subst c6
  have H1 : ((racewaylaw15_made.f k a0 a1 l2).bind fun bt235 => ((racewaylaw15_routed.f k bt235.1 bt235.2.1 bt235.2.2.1 bt235.2.2.2 l3).bind fun t242 => ((decomp_Split.f k bt235.1 bt235.2.1 bt235.2.2.1 bt235.2.2.2 t242).bind fun bt245 => ((decomp_Sum.f k bt235.1 bt235.2.1 bt235.2.2.1 bt235.2.2.2 bt245.1).bind fun bt249 => ((decomp_Split.f k bt235.1 bt235.2.1 bt235.2.2.1 bt235.2.2.2 bt249.1).bind fun bt253 => (if bt245.2 = 0 then (if bt249.2 = 0 then (if bt253.2 = 0 then ((racewaylaw15_as.f k bt245.1).bind fun t257 => ((racewaylaw15_as.f k bt253.1).bind fun t260 => ((racewayref15_Same.f k t257 t260).bind fun t263 => (racewaylaw15_DecompTwice.j0 k bt245.1 (!t263) bt235.1 bt235.2.1 bt235.2.2.1 bt235.2.2.2)))) else (racewaylaw15_DecompTwice.j0 k bt245.1 true bt235.1 bt235.2.1 bt235.2.2.1 bt235.2.2.2)) else (racewaylaw15_DecompTwice.j0 k bt245.1 true bt235.1 bt235.2.1 bt235.2.2.1 bt235.2.2.2)) else (racewaylaw15_DecompTwice.j0 k bt245.1 true bt235.1 bt235.2.1 bt235.2.2.1 bt235.2.2.2))))))) = some r := by rw [if_pos rfl] at H; exact H
  clear H
  have H := H1
  clear H1
  replace H := Option.bind_eq_some_iff.mp H
  obtain ⟨⟨t235, t236, t237, t238⟩, A70, H⟩ := H
  replace H : ((racewaylaw15_routed.f k t235 t236 t237 t238 l3).bind fun t242 => ((decomp_Split.f k t235 t236 t237 t238 t242).bind fun bt245 => ((decomp_Sum.f k t235 t236 t237 t238 bt245.1).bind fun bt249 => ((decomp_Split.f k t235 t236 t237 t238 bt249.1).bind fun bt253 => (if bt245.2 = 0 then (if bt249.2 = 0 then (if bt253.2 = 0 then ((racewaylaw15_as.f k bt245.1).bind fun t257 => ((racewaylaw15_as.f k bt253.1).bind fun t260 => ((racewayref15_Same.f k t257 t260).bind fun t263 => (racewaylaw15_DecompTwice.j0 k bt245.1 (!t263) t235 t236 t237 t238)))) else (racewaylaw15_DecompTwice.j0 k bt245.1 true t235 t236 t237 t238)) else (racewaylaw15_DecompTwice.j0 k bt245.1 true t235 t236 t237 t238)) else (racewaylaw15_DecompTwice.j0 k bt245.1 true t235 t236 t237 t238)))))) = some r := H
  have A7 := Aside0.mk A70
  clear A70
  replace H := Option.bind_eq_some_iff.mp H
  obtain ⟨t242, A80, H⟩ := H
  replace H : ((decomp_Split.f k t235 t236 t237 t238 t242).bind fun bt245 => ((decomp_Sum.f k t235 t236 t237 t238 bt245.1).bind fun bt249 => ((decomp_Split.f k t235 t236 t237 t238 bt249.1).bind fun bt253 => (if bt245.2 = 0 then (if bt249.2 = 0 then (if bt253.2 = 0 then ((racewaylaw15_as.f k bt245.1).bind fun t257 => ((racewaylaw15_as.f k bt253.1).bind fun t260 => ((racewayref15_Same.f k t257 t260).bind fun t263 => (racewaylaw15_DecompTwice.j0 k bt245.1 (!t263) t235 t236 t237 t238)))) else (racewaylaw15_DecompTwice.j0 k bt245.1 true t235 t236 t237 t238)) else (racewaylaw15_DecompTwice.j0 k bt245.1 true t235 t236 t237 t238)) else (racewaylaw15_DecompTwice.j0 k bt245.1 true t235 t236 t237 t238))))) = some r := H
  have A8 := Aside0.mk A80
  clear A80
  replace H := Option.bind_eq_some_iff.mp H
  obtain ⟨⟨t245, t248⟩, A90, H⟩ := H
  replace H : ((decomp_Sum.f k t235 t236 t237 t238 t245).bind fun bt249 => ((decomp_Split.f k t235 t236 t237 t238 bt249.1).bind fun bt253 => (if t248 = 0 then (if bt249.2 = 0 then (if bt253.2 = 0 then ((racewaylaw15_as.f k t245).bind fun t257 => ((racewaylaw15_as.f k bt253.1).bind fun t260 => ((racewayref15_Same.f k t257 t260).bind fun t263 => (racewaylaw15_DecompTwice.j0 k t245 (!t263) t235 t236 t237 t238)))) else (racewaylaw15_DecompTwice.j0 k t245 true t235 t236 t237 t238)) else (racewaylaw15_DecompTwice.j0 k t245 true t235 t236 t237 t238)) else (racewaylaw15_DecompTwice.j0 k t245 true t235 t236 t237 t238)))) = some r := H
  have A9 := Aside0.mk A90
  clear A90
  replace H := Option.bind_eq_some_iff.mp H
  obtain ⟨⟨t249, t252⟩, A100, H⟩ := H
  replace H : ((decomp_Split.f k t235 t236 t237 t238 t249).bind fun bt253 => (if t248 = 0 then (if t252 = 0 then (if bt253.2 = 0 then ((racewaylaw15_as.f k t245).bind fun t257 => ((racewaylaw15_as.f k bt253.1).bind fun t260 => ((racewayref15_Same.f k t257 t260).bind fun t263 => (racewaylaw15_DecompTwice.j0 k t245 (!t263) t235 t236 t237 t238)))) else (racewaylaw15_DecompTwice.j0 k t245 true t235 t236 t237 t238)) else (racewaylaw15_DecompTwice.j0 k t245 true t235 t236 t237 t238)) else (racewaylaw15_DecompTwice.j0 k t245 true t235 t236 t237 t238))) = some r := H
  have A10 := Aside0.mk A100
  clear A100
  replace H := Option.bind_eq_some_iff.mp H
  obtain ⟨⟨t253, t256⟩, A110, H⟩ := H
  replace H : (if t248 = 0 then (if t252 = 0 then (if t256 = 0 then ((racewaylaw15_as.f k t245).bind fun t257 => ((racewaylaw15_as.f k t253).bind fun t260 => ((racewayref15_Same.f k t257 t260).bind fun t263 => (racewaylaw15_DecompTwice.j0 k t245 (!t263) t235 t236 t237 t238)))) else (racewaylaw15_DecompTwice.j0 k t245 true t235 t236 t237 t238)) else (racewaylaw15_DecompTwice.j0 k t245 true t235 t236 t237 t238)) else (racewaylaw15_DecompTwice.j0 k t245 true t235 t236 t237 t238)) = some r := H
  have A11 := Aside0.mk A110
  clear A110
  have HC12 := Aside0.mk H
  clear H
  go_enter Try.func6, Try.ntmps6
  (try simp only [List.append_eq, List.cons_append, List.nil_append])
  go_upto_region 9 with (first | ((with_reducible refine gate_callee (f := 8) rfl ?_); refine goesL_ (some 22) rfl rfl Try.func8 (by kernel_rfl) rfl #[] rfl (by (try simp only [List.map_toArray, List.map_cons, List.map_nil]); first | done | rfl | (simp only [List.length_drop, List.length_take]; rfl)) ?_; (with_reducible refine (racewaylaw15_shown.calls k  true _ A5.out).mono ?_); rintro e w13 ⟨rfl, hb⟩; refine ⟨_, rfl, ?_⟩; have n0_ := Aside0.mk (below_step (by repeat (first | (with_reducible first | exact HB.out | apply below_alloc | apply pw_below_drewN | apply below_drew1) | exact HB.out)) hb); clear HB; have HB := n0_; clear n0_; (try clear hb); (try clear hb2); (try clear hk); (try clear hi)) | ((with_reducible refine gate_callee (f := 11) rfl ?_); refine goesL_ (some 28) rfl rfl Try.func11 (by kernel_rfl) rfl #[.int .i64 a0, .int .i64 a1, .slice A2 l2.length c2] rfl (by (try simp only [List.map_toArray, List.map_cons, List.map_nil]); first | done | rfl | (simp only [List.length_drop, List.length_take]; rfl)) ?_; (with_reducible refine (racewaylaw15_made.calls k a0 a1 _ _ l2 t235 t236 t237 t238 _ ?side1 ?side2 A7.out).mono ?_); (case side1 => repeat (first | exact (Kd.C_below HR2.out HB.out) | (with_reducible refine Kd.C_alloc ?_ _) | (with_reducible refine Kd.C_drewN ?_ _) | (with_reducible refine Kd.C_drew ?_))); (case side2 => exact HC2.out); rintro e w14 ⟨v239, rfl, ho0, hb⟩; refine ⟨_, rfl, ?_⟩; have n0_ := Aside0.mk (Kd.R_lower ho0 (below_size (by repeat (first | (with_reducible first | exact HB.out | apply below_alloc | apply pw_below_drewN | apply below_drew1) | exact HB.out)))); have n1_ := Aside0.mk (below_step (by repeat (first | (with_reducible first | exact HB.out | apply below_alloc | apply pw_below_drewN | apply below_drew1) | exact HB.out)) hb); clear HB; have HO240 := n0_; have HB := n1_; clear n0_ n1_; (try clear hb); (try clear hb2); (try clear hk); (try clear hi); (try clear ho0)) | ((with_reducible refine gate_dst (N := 10) rfl ?_); refine box_event ?hg (N := 10) ?hd (cs := #[.int .i64 0, .int .i64 0, .int .i64 0, .slice none 0 0]) (t := 26) ?hr ?_; (case hd => rfl); (case hg => rfl); (case hr => first | (go_simp; done) | (go_simp; rfl)); intro gb241 hg w15 hbox hb; have n0_ := Aside0.mk (Kd.R_below (by (with_reducible repeat first | apply Kd.R_alloc | apply Kd.R_drewN | apply Kd.R_drew); exact HO240.out) hb); have n1_ := Aside0.mk (below_step (by repeat (first | (with_reducible first | exact HB.out | apply below_alloc | apply pw_below_drewN | apply below_drew1) | exact HB.out)) hb); have n2_ := Aside0.mk (hbox); have n3_ := Aside0.mk ((by rw [hg]; exact (below_size (by repeat (first | (with_reducible first | exact HB.out | apply below_alloc | apply pw_below_drewN | apply below_drew1) | exact HB.out))) : w.heap.size ≤ gb241)); have n4_ := Aside0.mk ((by rw [hg]; exact (below_size (by repeat (first | (with_reducible first | exact HB.out | apply below_alloc | apply pw_below_drewN | apply below_drew1) | exact HB.out))) : w.heap.size ≤ gb241)); clear HO240; clear HB; have HO240 := n0_; have HB := n1_; have BK241 := n2_; have GW241 := n3_; have GE241 := n4_; clear n0_ n1_ n2_ n3_ n4_; clear hb hbox hg; have hcz16_0 : w15.cell? ⟨gb241, 0, none⟩ = some (.int .i64 0) := (blk_cell BK241.out 0).trans rfl; have hcz16_1 : w15.cell? ⟨gb241, 1, none⟩ = some (.int .i64 0) := (blk_cell BK241.out 1).trans rfl; have hcz16_2 : w15.cell? ⟨gb241, 2, none⟩ = some (.int .i64 0) := (blk_cell BK241.out 2).trans rfl; have hcz16_3 : w15.cell? ⟨gb241, 3, none⟩ = some (.slice none 0 0) := (blk_cell BK241.out 3).trans rfl; have hfz16_0 := blk_frozen BK241.out 0; have hfz16_1 := blk_frozen BK241.out 1; have hfz16_2 := blk_frozen BK241.out 2; have hfz16_3 := blk_frozen BK241.out 3; obtain ⟨Ao17, co17, eo17⟩ := Kd.R_slice HO240.out; subst eo17) | ((with_reducible refine gate_callee (f := 13) rfl ?_); refine goesL_ (some 31) rfl rfl Try.func13 (by kernel_rfl) rfl #[.agg #[.int .i64 t235, .int .i64 t236, .int .i64 t237, .slice Ao17 t238.length co17], .slice A3 l3.length c3] rfl (by (try simp only [List.map_toArray, List.map_cons, List.map_nil]); first | done | rfl | (simp only [List.length_drop, List.length_take]; rfl)) ?_; (with_reducible refine (racewaylaw15_routed.calls k t235 t236 t237 _ _ t238 _ _ l3 t242 _ ?side1 ?side2 ?side3 ?side4 A8.out).mono ?_); (case side1 => refine (Kd.R_reads' (e := 30) (base := w.heap.size) (ok := fun k_ => True) (n := t238.length) (c := co17) ?_).2.2; exact (by (with_reducible repeat first | apply Kd.R_alloc | apply Kd.R_drewN | apply Kd.R_drew); exact (Kd.R_mono (Kd.R_far (p := ⟨gb241, 3, none⟩) (Kd.R_far (p := ⟨gb241, 2, none⟩) (Kd.R_far (p := ⟨gb241, 1, none⟩) (Kd.R_far (p := ⟨gb241, 0, none⟩) (Kd.R_types HO240.out BK241.out (by decide)) (fun _ hk => hk.2) (.int .i64 t235)) (fun _ hk => hk.2) (.int .i64 t236)) (fun _ hk => hk.2) (.int .i64 t237)) (fun _ hk => hk.2) (.slice Ao17 t238.length co17)) (fun _ h_ => h_.1)))); (case side2 => exact (Kd.R_reads' HO240.out).2.1); (case side3 => exact Kd.C_below HR3.out (by repeat (first | (with_reducible first | exact HB.out | apply below_alloc | apply pw_below_drewN | apply below_drew1 | refine below_set ?_ GE241.out) | exact HB.out))); (case side4 => exact HC3.out); rintro e w18 ⟨v243, rfl, ho0, hb⟩; refine ⟨_, rfl, ?_⟩; have n0_ := Aside0.mk (Kd.R_below (by (with_reducible repeat first | apply Kd.R_alloc | apply Kd.R_drewN | apply Kd.R_drew); exact (Kd.R_mono (Kd.R_far (p := ⟨gb241, 3, none⟩) (Kd.R_far (p := ⟨gb241, 2, none⟩) (Kd.R_far (p := ⟨gb241, 1, none⟩) (Kd.R_far (p := ⟨gb241, 0, none⟩) (Kd.R_types HO240.out BK241.out (by decide)) (fun _ hk => hk.2) (.int .i64 t235)) (fun _ hk => hk.2) (.int .i64 t236)) (fun _ hk => hk.2) (.int .i64 t237)) (fun _ hk => hk.2) (.slice Ao17 t238.length co17)) (fun _ h_ => h_.1))) hb); have n1_ := Aside0.mk (Kd.R_lower ho0 (below_size (by repeat (first | (with_reducible first | exact HB.out | apply below_alloc | apply pw_below_drewN | apply below_drew1 | refine below_set ?_ GE241.out) | exact HB.out)))); have n2_ := Aside0.mk (blk_below (g := gb241) (o := .cells #[.int .i64 t235, .int .i64 t236, .int .i64 t237, .slice Ao17 t238.length co17] 26 (0, 0)) (by (with_reducible repeat first | refine blk_drewN ?_ _ | refine blk_drew ?_ | refine blk_alloc ?_ _); refine blk_put (cs := #[.int .i64 t235, .int .i64 t236, .int .i64 t237, .slice none 0 0]) ?_ 3 _ rfl; (with_reducible repeat first | refine blk_drewN ?_ _ | refine blk_drew ?_ | refine blk_alloc ?_ _); refine blk_put (cs := #[.int .i64 t235, .int .i64 t236, .int .i64 0, .slice none 0 0]) ?_ 2 _ rfl; (with_reducible repeat first | refine blk_drewN ?_ _ | refine blk_drew ?_ | refine blk_alloc ?_ _); refine blk_put (cs := #[.int .i64 t235, .int .i64 0, .int .i64 0, .slice none 0 0]) ?_ 1 _ rfl; (with_reducible repeat first | refine blk_drewN ?_ _ | refine blk_drew ?_ | refine blk_alloc ?_ _); refine blk_put (cs := #[.int .i64 0, .int .i64 0, .int .i64 0, .slice none 0 0]) ?_ 0 _ rfl; (with_reducible repeat first | refine blk_drewN ?_ _ | refine blk_drew ?_ | refine blk_alloc ?_ _); exact BK241.out) hb); have n3_ := Aside0.mk (below_step (by repeat (first | (with_reducible first | exact HB.out | apply below_alloc | apply pw_below_drewN | apply below_drew1 | refine below_set ?_ GE241.out) | exact HB.out)) hb); clear HO240; clear BK241; clear HB; have HO240 := n0_; have HO244 := n1_; have BK241 := n2_; have HB := n3_; clear n0_ n1_ n2_ n3_; (try clear hb); (try clear hb2); (try clear hk); (try clear hi); (try clear ho0); have hcz19_0 : w18.cell? ⟨gb241, 0, none⟩ = some (.int .i64 t235) := (blk_cell BK241.out 0).trans rfl; have hcz19_1 : w18.cell? ⟨gb241, 1, none⟩ = some (.int .i64 t236) := (blk_cell BK241.out 1).trans rfl; have hcz19_2 : w18.cell? ⟨gb241, 2, none⟩ = some (.int .i64 t237) := (blk_cell BK241.out 2).trans rfl; have hcz19_3 : w18.cell? ⟨gb241, 3, none⟩ = some (.slice Ao17 t238.length co17) := (blk_cell BK241.out 3).trans rfl; have hfz19_0 := blk_frozen BK241.out 0; have hfz19_1 := blk_frozen BK241.out 1; have hfz19_2 := blk_frozen BK241.out 2; have hfz19_3 := blk_frozen BK241.out 3; obtain ⟨Ao20, co20, eo20⟩ := Kd.R_slice HO244.out; subst eo20) | ((with_reducible refine gate_callee (f := 10) rfl ?_); refine goesL_ (some 35) rfl rfl Try.func10 (by kernel_rfl) rfl #[.agg #[.int .i64 t235, .int .i64 t236, .int .i64 t237, .slice Ao17 t238.length co17], .slice Ao20 t242.length co20] rfl (by (try simp only [List.map_toArray, List.map_cons, List.map_nil]); first | done | rfl | (simp only [List.length_drop, List.length_take]; rfl)) ?_; (with_reducible refine (decomp_Split.calls k t235 t236 t237 _ _ t238 _ _ t242 t245 t248 _ ?side1 ?side2 ?side3 ?side4 A9.out).mono ?_); (case side1 => repeat (first | exact (Kd.R_reads' HO240.out).2.2 | (with_reducible refine Kd.C_alloc ?_ _) | (with_reducible refine Kd.C_drewN ?_ _) | (with_reducible refine Kd.C_drew ?_))); (case side2 => exact (Kd.R_reads' HO240.out).2.1); (case side3 => repeat (first | exact (Kd.R_reads' HO244.out).2.2 | (with_reducible refine Kd.C_alloc ?_ _) | (with_reducible refine Kd.C_drewN ?_ _) | (with_reducible refine Kd.C_drew ?_))); (case side4 => exact (Kd.R_reads' HO244.out).2.1); rintro e w21 ⟨v246, rfl, ho0, hb⟩; refine ⟨_, rfl, ?_⟩; have n0_ := Aside0.mk (Kd.R_below (by (with_reducible repeat first | apply Kd.R_alloc | apply Kd.R_drewN | apply Kd.R_drew); exact HO240.out) hb); have n1_ := Aside0.mk (Kd.R_below (by (with_reducible repeat first | apply Kd.R_alloc | apply Kd.R_drewN | apply Kd.R_drew); exact HO244.out) hb); have n2_ := Aside0.mk (Kd.N_lower (Kd.N_mono (ok' := fun k_ => some k_ ≠ (.slice Ao17 t238.length co17 : Value).ownBlock ∧ some k_ ≠ (.slice Ao20 t242.length co20 : Value).ownBlock ∧ k_ ≠ gb241) (Kd.S_N (Kd.S_bound ho0)) (fun k_ hk_ => ⟨(Kd.fresh' (Kd.R_lt (by (with_reducible repeat first | apply Kd.R_alloc | apply Kd.R_drewN | apply Kd.R_drew); exact HO240.out)) k_ hk_.2.1), (Kd.fresh' (Kd.R_lt (by (with_reducible repeat first | apply Kd.R_alloc | apply Kd.R_drewN | apply Kd.R_drew); exact HO244.out)) k_ hk_.2.1), (Kd.freshB (g := gb241) (o := .cells #[.int .i64 t235, .int .i64 t236, .int .i64 t237, .slice Ao17 t238.length co17] 26 (0, 0)) (by (with_reducible repeat first | refine blk_drewN ?_ _ | refine blk_drew ?_ | refine blk_alloc ?_ _); exact BK241.out) k_ hk_.2.1)⟩)) (below_size (by repeat (first | (with_reducible first | exact HB.out | apply below_alloc | apply pw_below_drewN | apply below_drew1 | refine below_set ?_ GE241.out) | exact HB.out)))); have n3_ := Aside0.mk (blk_below (g := gb241) (o := .cells #[.int .i64 t235, .int .i64 t236, .int .i64 t237, .slice Ao17 t238.length co17] 26 (0, 0)) (by (with_reducible repeat first | refine blk_drewN ?_ _ | refine blk_drew ?_ | refine blk_alloc ?_ _); exact BK241.out) hb); have n4_ := Aside0.mk (below_step (by repeat (first | (with_reducible first | exact HB.out | apply below_alloc | apply pw_below_drewN | apply below_drew1 | refine below_set ?_ GE241.out) | exact HB.out)) hb); clear HO240; clear HO244; clear BK241; clear HB; have HO240 := n0_; have HO244 := n1_; have HO247 := n2_; have BK241 := n3_; have HB := n4_; clear n0_ n1_ n2_ n3_ n4_; (try clear hb); (try clear hb2); (try clear hk); (try clear hi); (try clear ho0); have hcz22_0 : w21.cell? ⟨gb241, 0, none⟩ = some (.int .i64 t235) := (blk_cell BK241.out 0).trans rfl; have hcz22_1 : w21.cell? ⟨gb241, 1, none⟩ = some (.int .i64 t236) := (blk_cell BK241.out 1).trans rfl; have hcz22_2 : w21.cell? ⟨gb241, 2, none⟩ = some (.int .i64 t237) := (blk_cell BK241.out 2).trans rfl; have hcz22_3 : w21.cell? ⟨gb241, 3, none⟩ = some (.slice Ao17 t238.length co17) := (blk_cell BK241.out 3).trans rfl; have hfz22_0 := blk_frozen BK241.out 0; have hfz22_1 := blk_frozen BK241.out 1; have hfz22_2 := blk_frozen BK241.out 2; have hfz22_3 := blk_frozen BK241.out 3; obtain ⟨Ao23, co23, eo23⟩ := Kd.N_slice HO247.out; subst eo23) | ((with_reducible refine gate_callee (f := 15) rfl ?_); refine goesL_ (some 41) rfl rfl Try.func15 (by kernel_rfl) rfl #[.agg #[.int .i64 t235, .int .i64 t236, .int .i64 t237, .slice Ao17 t238.length co17], .slice Ao23 t245.length co23] rfl (by (try simp only [List.map_toArray, List.map_cons, List.map_nil]); first | done | rfl | (simp only [List.length_drop, List.length_take]; rfl)) ?_; (with_reducible refine (decomp_Sum.calls k t235 t236 t237 _ _ t238 _ _ t245 t249 t252 _ ?side1 ?side2 ?side3 ?side4 A10.out).mono ?_); (case side1 => repeat (first | exact (Kd.R_reads' HO240.out).2.2 | (with_reducible refine Kd.C_alloc ?_ _) | (with_reducible refine Kd.C_drewN ?_ _) | (with_reducible refine Kd.C_drew ?_))); (case side2 => exact (Kd.R_reads' HO240.out).2.1); (case side3 => repeat (first | exact (Kd.N_reads' HO247.out).2.2 | (with_reducible refine Kd.C_alloc ?_ _) | (with_reducible refine Kd.C_drewN ?_ _) | (with_reducible refine Kd.C_drew ?_))); (case side4 => exact (Kd.N_reads' HO247.out).2.1); rintro e w24 ⟨v250, rfl, ho0, hb⟩; refine ⟨_, rfl, ?_⟩; have n0_ := Aside0.mk (Kd.R_below (by (with_reducible repeat first | apply Kd.R_alloc | apply Kd.R_drewN | apply Kd.R_drew); exact HO240.out) hb); have n1_ := Aside0.mk (Kd.R_elder' (by (with_reducible repeat first | apply Kd.R_alloc | apply Kd.R_drewN | apply Kd.R_drew); exact HO244.out) (Kd.R_base ho0) hb); have n2_ := Aside0.mk (Kd.N_elder' (by (with_reducible repeat (first | apply Kd.N_alloc | apply Kd.N_drewN | apply Kd.N_drew)); exact HO247.out) (Kd.R_base ho0) hb); have n3_ := Aside0.mk (Kd.R_lower (Kd.R_new' ho0 (Kd.R_lt (by (with_reducible repeat first | apply Kd.R_alloc | apply Kd.R_drewN | apply Kd.R_drew); exact HO244.out))) (below_size (by repeat (first | (with_reducible first | exact HB.out | apply below_alloc | apply pw_below_drewN | apply below_drew1 | refine below_set ?_ GE241.out) | exact HB.out)))); have n4_ := Aside0.mk (blk_below (g := gb241) (o := .cells #[.int .i64 t235, .int .i64 t236, .int .i64 t237, .slice Ao17 t238.length co17] 26 (0, 0)) (by (with_reducible repeat first | refine blk_drewN ?_ _ | refine blk_drew ?_ | refine blk_alloc ?_ _); exact BK241.out) hb); have n5_ := Aside0.mk (below_step (by repeat (first | (with_reducible first | exact HB.out | apply below_alloc | apply pw_below_drewN | apply below_drew1 | refine below_set ?_ GE241.out) | exact HB.out)) hb); clear HO240; clear HO244; clear HO247; clear BK241; clear HB; have HO240 := n0_; have HO244 := n1_; have HO247 := n2_; have HO251 := n3_; have BK241 := n4_; have HB := n5_; clear n0_ n1_ n2_ n3_ n4_ n5_; (try clear hb); (try clear hb2); (try clear hk); (try clear hi); (try clear ho0); have hcz25_0 : w24.cell? ⟨gb241, 0, none⟩ = some (.int .i64 t235) := (blk_cell BK241.out 0).trans rfl; have hcz25_1 : w24.cell? ⟨gb241, 1, none⟩ = some (.int .i64 t236) := (blk_cell BK241.out 1).trans rfl; have hcz25_2 : w24.cell? ⟨gb241, 2, none⟩ = some (.int .i64 t237) := (blk_cell BK241.out 2).trans rfl; have hcz25_3 : w24.cell? ⟨gb241, 3, none⟩ = some (.slice Ao17 t238.length co17) := (blk_cell BK241.out 3).trans rfl; have hfz25_0 := blk_frozen BK241.out 0; have hfz25_1 := blk_frozen BK241.out 1; have hfz25_2 := blk_frozen BK241.out 2; have hfz25_3 := blk_frozen BK241.out 3; obtain ⟨Ao26, co26, eo26⟩ := Kd.R_slice HO251.out; subst eo26) | ((with_reducible refine gate_callee (f := 10) rfl ?_); refine goesL_ (some 47) rfl rfl Try.func10 (by kernel_rfl) rfl #[.agg #[.int .i64 t235, .int .i64 t236, .int .i64 t237, .slice Ao17 t238.length co17], .slice Ao26 t249.length co26] rfl (by (try simp only [List.map_toArray, List.map_cons, List.map_nil]); first | done | rfl | (simp only [List.length_drop, List.length_take]; rfl)) ?_; (with_reducible refine (decomp_Split.calls k t235 t236 t237 _ _ t238 _ _ t249 t253 t256 _ ?side1 ?side2 ?side3 ?side4 A11.out).mono ?_); (case side1 => repeat (first | exact (Kd.R_reads' HO240.out).2.2 | (with_reducible refine Kd.C_alloc ?_ _) | (with_reducible refine Kd.C_drewN ?_ _) | (with_reducible refine Kd.C_drew ?_))); (case side2 => exact (Kd.R_reads' HO240.out).2.1); (case side3 => repeat (first | exact (Kd.R_reads' HO251.out).2.2 | (with_reducible refine Kd.C_alloc ?_ _) | (with_reducible refine Kd.C_drewN ?_ _) | (with_reducible refine Kd.C_drew ?_))); (case side4 => exact (Kd.R_reads' HO251.out).2.1); rintro e w27 ⟨v254, rfl, ho0, hb⟩; refine ⟨_, rfl, ?_⟩; have n0_ := Aside0.mk (Kd.R_below (by (with_reducible repeat first | apply Kd.R_alloc | apply Kd.R_drewN | apply Kd.R_drew); exact HO240.out) hb); have n1_ := Aside0.mk (Kd.R_below (by (with_reducible repeat first | apply Kd.R_alloc | apply Kd.R_drewN | apply Kd.R_drew); exact HO244.out) hb); have n2_ := Aside0.mk (Kd.N_elder' (by (with_reducible repeat (first | apply Kd.N_alloc | apply Kd.N_drewN | apply Kd.N_drew)); exact HO247.out) (by first | exact Kd.N_base ho0 | exact Kd.S_base ho0) hb); have n3_ := Aside0.mk (Kd.R_below (by (with_reducible repeat first | apply Kd.R_alloc | apply Kd.R_drewN | apply Kd.R_drew); exact HO251.out) hb); have n4_ := Aside0.mk (Kd.N_lower (Kd.N_mono (ok' := fun k_ => some k_ ≠ (.slice Ao17 t238.length co17 : Value).ownBlock ∧ some k_ ≠ (.slice Ao20 t242.length co20 : Value).ownBlock ∧ some k_ ≠ (.slice Ao23 t245.length co23 : Value).ownBlock ∧ some k_ ≠ (.slice Ao26 t249.length co26 : Value).ownBlock ∧ k_ ≠ gb241) (Kd.S_N (Kd.S_bound ho0)) (fun k_ hk_ => ⟨(Kd.fresh' (Kd.R_lt (by (with_reducible repeat first | apply Kd.R_alloc | apply Kd.R_drewN | apply Kd.R_drew); exact HO240.out)) k_ hk_.2.1), (Kd.fresh' (Kd.R_lt (by (with_reducible repeat first | apply Kd.R_alloc | apply Kd.R_drewN | apply Kd.R_drew); exact HO244.out)) k_ hk_.2.1), (Kd.fresh' (Kd.N_lt (by (with_reducible repeat (first | apply Kd.N_alloc | apply Kd.N_drewN | apply Kd.N_drew)); exact HO247.out)) k_ hk_.2.1), (Kd.fresh' (Kd.R_lt (by (with_reducible repeat first | apply Kd.R_alloc | apply Kd.R_drewN | apply Kd.R_drew); exact HO251.out)) k_ hk_.2.1), (Kd.freshB (g := gb241) (o := .cells #[.int .i64 t235, .int .i64 t236, .int .i64 t237, .slice Ao17 t238.length co17] 26 (0, 0)) (by (with_reducible repeat first | refine blk_drewN ?_ _ | refine blk_drew ?_ | refine blk_alloc ?_ _); exact BK241.out) k_ hk_.2.1)⟩)) (below_size (by repeat (first | (with_reducible first | exact HB.out | apply below_alloc | apply pw_below_drewN | apply below_drew1 | refine below_set ?_ GE241.out) | exact HB.out)))); have n5_ := Aside0.mk (blk_below (g := gb241) (o := .cells #[.int .i64 t235, .int .i64 t236, .int .i64 t237, .slice Ao17 t238.length co17] 26 (0, 0)) (by (with_reducible repeat first | refine blk_drewN ?_ _ | refine blk_drew ?_ | refine blk_alloc ?_ _); exact BK241.out) hb); have n6_ := Aside0.mk (below_step (by repeat (first | (with_reducible first | exact HB.out | apply below_alloc | apply pw_below_drewN | apply below_drew1 | refine below_set ?_ GE241.out) | exact HB.out)) hb); clear HO240; clear HO244; clear HO247; clear HO251; clear BK241; clear HB; have HO240 := n0_; have HO244 := n1_; have HO247 := n2_; have HO251 := n3_; have HO255 := n4_; have BK241 := n5_; have HB := n6_; clear n0_ n1_ n2_ n3_ n4_ n5_ n6_; (try clear hb); (try clear hb2); (try clear hk); (try clear hi); (try clear ho0)))
  (try simp only [Act.put, List.setIfInBounds_toArray, List.set_cons_zero, List.set_cons_succ])
  go_cut [67] (fun v67 wc => ∃ (kq : Nat) (x67_11 : Bool), v67 = .bool x67_11 ∧ Aside0 (racewaylaw15_DecompTwice.j0 kq t245 x67_11 t235 t236 t237 t238 = some r) ∧ Aside0 (kq ≤ k) ∧ Aside0 (Kd.N k36 36 wc w.heap.size (fun k_ => some k_ ≠ ((.slice Ao17 t238.length co17) : Value).ownBlock ∧ k_ ≠ gb241) (.slice Ao23 t245.length co23) t245) ∧ Aside0 (Kd.R k30 30 wc w.heap.size (fun _ => True) (.slice Ao17 t238.length co17) t238) ∧ Aside0 (wc.heap[gb241]? = some (.cells #[.int .i64 t235, .int .i64 t236, .int .i64 t237, (.slice Ao17 t238.length co17)] 26 (0, 0))) ∧ Aside0 (Below w.heap.size w wc))
  case first =>
   (have H := HC12.out);(clear HC12)
   by_cases c28 : t248 = 0
   ·(rw [if_pos c28] at H);(have c28b0 : (t248 == 0) = true := beq_iff_eq.mpr c28);(have c28b1 : (t248 != 0) = false := bne_eq_false_iff_eq.mpr c28);(clear c28);((first | rw [c28b0] | (simp only [i64_w, i32_w]; rw [c28b0]) | skip))
    by_cases c29 : t252 = 0
    ·(rw [if_pos c29] at H);(have c29b0 : (t252 == 0) = true := beq_iff_eq.mpr c29);(have c29b1 : (t252 != 0) = false := bne_eq_false_iff_eq.mpr c29);(clear c29)
     by_cases c30 : t256 = 0
     ·(rw [if_pos c30] at H);(have c30b0 : (t256 == 0) = true := beq_iff_eq.mpr c30);(have c30b1 : (t256 != 0) = false := bne_eq_false_iff_eq.mpr c30);(clear c30);(replace H := Option.bind_eq_some_iff.mp H);(obtain ⟨t257, A310, H⟩ := H);(replace H : ((racewaylaw15_as.f k t253).bind fun t260 => ((racewayref15_Same.f k t257 t260).bind fun t263 => (racewaylaw15_DecompTwice.j0 k t245 (!t263) t235 t236 t237 t238))) = some r := H);(have A31 := Aside0.mk A310);(clear A310);(replace H := Option.bind_eq_some_iff.mp H);(obtain ⟨t260, A320, H⟩ := H);(replace H : ((racewayref15_Same.f k t257 t260).bind fun t263 => (racewaylaw15_DecompTwice.j0 k t245 (!t263) t235 t236 t237 t238)) = some r := H);(have A32 := Aside0.mk A320);(clear A320);(replace H := Option.bind_eq_some_iff.mp H);(obtain ⟨t263, A330, H⟩ := H);(replace H : (racewaylaw15_DecompTwice.j0 k t245 (!t263) t235 t236 t237 t238) = some r := H);(have A33 := Aside0.mk A330);(clear A330)
      as_aux_lemma =>
       (have H' := Aside0.mk H);(clear H)
       go_wp2_with (first | (go_at_call 18; (with_reducible refine (racewaylaw15_as.calls k (fun k_ => (((some k_ ≠ (.slice Ao17 t238.length co17 : Value).ownBlock ∧ (some k_ ≠ (.slice Ao20 t242.length co20 : Value).ownBlock ∧ k_ ≠ gb241)) ∧ some k_ ≠ (.slice Ao26 t249.length co26 : Value).ownBlock) ∧ some k_ ≠ (v254 : Value).ownBlock)) _ _ t245 t257 _ ?side1 A31.out).mono ?_); (case side1 => exact Kd.N_V (HO247.out)); rintro e w34 ⟨v258, rfl, ho0, hb⟩; have n0_ := Aside0.mk (Kd.R_below (by (with_reducible repeat first | apply Kd.R_alloc | apply Kd.R_drewN | apply Kd.R_drew); exact HO240.out) hb); have n1_ := Aside0.mk (Kd.R_below (by (with_reducible repeat first | apply Kd.R_alloc | apply Kd.R_drewN | apply Kd.R_drew); exact HO244.out) hb); have n2_ := Aside0.mk (Kd.N_elder' (by (with_reducible repeat (first | apply Kd.N_alloc | apply Kd.N_drewN | apply Kd.N_drew)); exact HO247.out) (by first | exact Kd.N_base ho0 | exact Kd.S_base ho0) hb); have n3_ := Aside0.mk (Kd.R_below (by (with_reducible repeat first | apply Kd.R_alloc | apply Kd.R_drewN | apply Kd.R_drew); exact HO251.out) hb); have n4_ := Aside0.mk (Kd.N_elder' (by (with_reducible repeat (first | apply Kd.N_alloc | apply Kd.N_drewN | apply Kd.N_drew)); exact HO255.out) (by first | exact Kd.N_base ho0 | exact Kd.S_base ho0) hb); have n5_ := Aside0.mk (Kd.N_lower (Kd.N_mono (ok' := fun k_ => some k_ ≠ (.slice Ao17 t238.length co17 : Value).ownBlock ∧ some k_ ≠ (.slice Ao20 t242.length co20 : Value).ownBlock ∧ some k_ ≠ (.slice Ao26 t249.length co26 : Value).ownBlock ∧ some k_ ≠ (v254 : Value).ownBlock ∧ k_ ≠ gb241) ho0 (fun k_ hk_ => ⟨Or.elim hk_ (fun hs_ => hs_.1.1.1) (fun hn_ => (Kd.fresh' (Kd.R_lt (by (with_reducible repeat first | apply Kd.R_alloc | apply Kd.R_drewN | apply Kd.R_drew); exact HO240.out)) k_ hn_)), Or.elim hk_ (fun hs_ => hs_.1.1.2.1) (fun hn_ => (Kd.fresh' (Kd.R_lt (by (with_reducible repeat first | apply Kd.R_alloc | apply Kd.R_drewN | apply Kd.R_drew); exact HO244.out)) k_ hn_)), Or.elim hk_ (fun hs_ => hs_.1.2) (fun hn_ => (Kd.fresh' (Kd.R_lt (by (with_reducible repeat first | apply Kd.R_alloc | apply Kd.R_drewN | apply Kd.R_drew); exact HO251.out)) k_ hn_)), Or.elim hk_ (fun hs_ => hs_.2) (fun hn_ => (Kd.fresh' (Kd.N_lt (by (with_reducible repeat (first | apply Kd.N_alloc | apply Kd.N_drewN | apply Kd.N_drew)); exact HO255.out)) k_ hn_)), Or.elim hk_ (fun hs_ => hs_.1.1.2.2) (fun hn_ => (Kd.freshB (g := gb241) (o := .cells #[.int .i64 t235, .int .i64 t236, .int .i64 t237, .slice Ao17 t238.length co17] 26 (0, 0)) (by (with_reducible repeat first | refine blk_drewN ?_ _ | refine blk_drew ?_ | refine blk_alloc ?_ _); exact BK241.out) k_ hn_))⟩)) (below_size (by repeat (first | (with_reducible first | exact HB.out | apply below_alloc | apply pw_below_drewN | apply below_drew1 | refine below_set ?_ GE241.out) | exact HB.out)))); have n6_ := Aside0.mk (blk_below (g := gb241) (o := .cells #[.int .i64 t235, .int .i64 t236, .int .i64 t237, .slice Ao17 t238.length co17] 26 (0, 0)) (by (with_reducible repeat first | refine blk_drewN ?_ _ | refine blk_drew ?_ | refine blk_alloc ?_ _); exact BK241.out) hb); have n7_ := Aside0.mk (below_step (by repeat (first | (with_reducible first | exact HB.out | apply below_alloc | apply pw_below_drewN | apply below_drew1 | refine below_set ?_ GE241.out) | exact HB.out)) hb); clear HO240; clear HO244; clear HO247; clear HO251; clear HO255; clear BK241; clear HB; have HO240 := n0_; have HO244 := n1_; have HO247 := n2_; have HO251 := n3_; have HO255 := n4_; have HO259 := n5_; have BK241 := n6_; have HB := n7_; clear n0_ n1_ n2_ n3_ n4_ n5_ n6_ n7_; (try clear hb); (try clear hb2); (try clear hk); (try clear hi); (try clear ho0); obtain ⟨Ao35, co35, eo35⟩ := Kd.N_slice HO255.out; subst eo35) | (go_at_call 18; (with_reducible refine (racewaylaw15_as.calls k (fun k_ => ((some k_ ≠ (.slice Ao17 t238.length co17 : Value).ownBlock ∧ (some k_ ≠ (.slice Ao20 t242.length co20 : Value).ownBlock ∧ (some k_ ≠ (.slice Ao23 t245.length co23 : Value).ownBlock ∧ (some k_ ≠ (.slice Ao26 t249.length co26 : Value).ownBlock ∧ k_ ≠ gb241)))) ∧ some k_ ≠ (v258 : Value).ownBlock)) _ _ t253 t260 _ ?side1 A32.out).mono ?_); (case side1 => exact Kd.N_V (HO255.out)); rintro e w36 ⟨v261, rfl, ho0, hb⟩; have n0_ := Aside0.mk (Kd.R_below (by (with_reducible repeat first | apply Kd.R_alloc | apply Kd.R_drewN | apply Kd.R_drew); exact HO240.out) hb); have n1_ := Aside0.mk (Kd.R_below (by (with_reducible repeat first | apply Kd.R_alloc | apply Kd.R_drewN | apply Kd.R_drew); exact HO244.out) hb); have n2_ := Aside0.mk (Kd.N_elder' (by (with_reducible repeat (first | apply Kd.N_alloc | apply Kd.N_drewN | apply Kd.N_drew)); exact HO247.out) (by first | exact Kd.N_base ho0 | exact Kd.S_base ho0) hb); have n3_ := Aside0.mk (Kd.R_below (by (with_reducible repeat first | apply Kd.R_alloc | apply Kd.R_drewN | apply Kd.R_drew); exact HO251.out) hb); have n4_ := Aside0.mk (Kd.N_elder' (by (with_reducible repeat (first | apply Kd.N_alloc | apply Kd.N_drewN | apply Kd.N_drew)); exact HO255.out) (by first | exact Kd.N_base ho0 | exact Kd.S_base ho0) hb); have n5_ := Aside0.mk (Kd.N_elder' (by (with_reducible repeat (first | apply Kd.N_alloc | apply Kd.N_drewN | apply Kd.N_drew)); exact HO259.out) (by first | exact Kd.N_base ho0 | exact Kd.S_base ho0) hb); have n6_ := Aside0.mk (Kd.N_lower (Kd.N_mono (ok' := fun k_ => some k_ ≠ (.slice Ao17 t238.length co17 : Value).ownBlock ∧ some k_ ≠ (.slice Ao20 t242.length co20 : Value).ownBlock ∧ some k_ ≠ (.slice Ao23 t245.length co23 : Value).ownBlock ∧ some k_ ≠ (.slice Ao26 t249.length co26 : Value).ownBlock ∧ some k_ ≠ (v258 : Value).ownBlock ∧ k_ ≠ gb241) ho0 (fun k_ hk_ => ⟨Or.elim hk_ (fun hs_ => hs_.1.1) (fun hn_ => (Kd.fresh' (Kd.R_lt (by (with_reducible repeat first | apply Kd.R_alloc | apply Kd.R_drewN | apply Kd.R_drew); exact HO240.out)) k_ hn_)), Or.elim hk_ (fun hs_ => hs_.1.2.1) (fun hn_ => (Kd.fresh' (Kd.R_lt (by (with_reducible repeat first | apply Kd.R_alloc | apply Kd.R_drewN | apply Kd.R_drew); exact HO244.out)) k_ hn_)), Or.elim hk_ (fun hs_ => hs_.1.2.2.1) (fun hn_ => (Kd.fresh' (Kd.N_lt (by (with_reducible repeat (first | apply Kd.N_alloc | apply Kd.N_drewN | apply Kd.N_drew)); exact HO247.out)) k_ hn_)), Or.elim hk_ (fun hs_ => hs_.1.2.2.2.1) (fun hn_ => (Kd.fresh' (Kd.R_lt (by (with_reducible repeat first | apply Kd.R_alloc | apply Kd.R_drewN | apply Kd.R_drew); exact HO251.out)) k_ hn_)), Or.elim hk_ (fun hs_ => hs_.2) (fun hn_ => (Kd.fresh' (Kd.N_lt (by (with_reducible repeat (first | apply Kd.N_alloc | apply Kd.N_drewN | apply Kd.N_drew)); exact HO259.out)) k_ hn_)), Or.elim hk_ (fun hs_ => hs_.1.2.2.2.2) (fun hn_ => (Kd.freshB (g := gb241) (o := .cells #[.int .i64 t235, .int .i64 t236, .int .i64 t237, .slice Ao17 t238.length co17] 26 (0, 0)) (by (with_reducible repeat first | refine blk_drewN ?_ _ | refine blk_drew ?_ | refine blk_alloc ?_ _); exact BK241.out) k_ hn_))⟩)) (below_size (by repeat (first | (with_reducible first | exact HB.out | apply below_alloc | apply pw_below_drewN | apply below_drew1 | refine below_set ?_ GE241.out) | exact HB.out)))); have n7_ := Aside0.mk (blk_below (g := gb241) (o := .cells #[.int .i64 t235, .int .i64 t236, .int .i64 t237, .slice Ao17 t238.length co17] 26 (0, 0)) (by (with_reducible repeat first | refine blk_drewN ?_ _ | refine blk_drew ?_ | refine blk_alloc ?_ _); exact BK241.out) hb); have n8_ := Aside0.mk (below_step (by repeat (first | (with_reducible first | exact HB.out | apply below_alloc | apply pw_below_drewN | apply below_drew1 | refine below_set ?_ GE241.out) | exact HB.out)) hb); clear HO240; clear HO244; clear HO247; clear HO251; clear HO255; clear HO259; clear BK241; clear HB; have HO240 := n0_; have HO244 := n1_; have HO247 := n2_; have HO251 := n3_; have HO255 := n4_; have HO259 := n5_; have HO262 := n6_; have BK241 := n7_; have HB := n8_; clear n0_ n1_ n2_ n3_ n4_ n5_ n6_ n7_ n8_; (try clear hb); (try clear hb2); (try clear hk); (try clear hi); (try clear ho0); obtain ⟨Ao37, co37, eo37⟩ := Kd.N_slice HO259.out; subst eo37; obtain ⟨Ao38, co38, eo38⟩ := Kd.N_slice HO262.out; subst eo38) | (go_at_call 17; (with_reducible refine (racewayref15_Same.calls k _ _ t257 _ _ t260 t263 _ ?side1 ?side2 ?side3 ?side4 A33.out).mono ?_); (case side1 => repeat (first | exact (Kd.N_reads' HO259.out).2.2 | (with_reducible refine Kd.C_alloc ?_ _) | (with_reducible refine Kd.C_drewN ?_ _) | (with_reducible refine Kd.C_drew ?_))); (case side2 => exact (Kd.N_reads' HO259.out).2.1); (case side3 => repeat (first | exact (Kd.N_reads' HO262.out).2.2 | (with_reducible refine Kd.C_alloc ?_ _) | (with_reducible refine Kd.C_drewN ?_ _) | (with_reducible refine Kd.C_drew ?_))); (case side4 => exact (Kd.N_reads' HO262.out).2.1); rintro e w' ⟨rfl, ⟨nd, rfl⟩⟩))
       go_meet
       case rel => exact ⟨_, (!t263), (by first | rfl | (simp; done) | (simp [*]; done)), H', ⟨by first | omega | exact Nat.le_refl _⟩, ⟨by (with_reducible repeat (first | apply Kd.N_alloc | apply Kd.N_drewN | apply Kd.N_drew)); exact Kd.N_mono HO247.out (fun _ hk => ⟨hk.1.1.1.1.1, hk.1.1.1.1.2.2⟩)⟩, ⟨by (with_reducible repeat first | apply Kd.R_alloc | apply Kd.R_drewN | apply Kd.R_drew); exact HO240.out⟩, ⟨by (with_reducible repeat first | refine blk_drewN ?_ _ | refine blk_drew ?_ | refine blk_alloc ?_ _); exact BK241.out⟩, ⟨by repeat (first | (with_reducible first | exact HB.out | apply below_alloc | apply pw_below_drewN | apply below_drew1 | refine below_set ?_ GE241.out) | exact HB.out)⟩⟩
     ·(rw [if_neg c30] at H);(have c30b0 : (t256 == 0) = false := beq_eq_false_iff_ne.mpr c30);(have c30b1 : (t256 != 0) = true := bne_iff_ne.mpr c30)
      as_aux_lemma =>
       (have H' := Aside0.mk H);(clear H)
       go_wp2
       go_meet
       case rel => exact ⟨_, (true), (by first | rfl | (simp; done) | (simp [*]; done)), H', ⟨by first | omega | exact Nat.le_refl _⟩, ⟨by (with_reducible repeat (first | apply Kd.N_alloc | apply Kd.N_drewN | apply Kd.N_drew)); exact Kd.N_mono HO247.out (fun _ hk => ⟨hk.1.1.1, hk.1.1.2.2⟩)⟩, ⟨by (with_reducible repeat first | apply Kd.R_alloc | apply Kd.R_drewN | apply Kd.R_drew); exact HO240.out⟩, ⟨by (with_reducible repeat first | refine blk_drewN ?_ _ | refine blk_drew ?_ | refine blk_alloc ?_ _); exact BK241.out⟩, ⟨by repeat (first | (with_reducible first | exact HB.out | apply below_alloc | apply pw_below_drewN | apply below_drew1 | refine below_set ?_ GE241.out) | exact HB.out)⟩⟩
    ·(rw [if_neg c29] at H);(have c29b0 : (t252 == 0) = false := beq_eq_false_iff_ne.mpr c29);(have c29b1 : (t252 != 0) = true := bne_iff_ne.mpr c29)
     as_aux_lemma =>
      (have H' := Aside0.mk H);(clear H)
      go_wp2
      go_meet
      case rel => exact ⟨_, (true), (by first | rfl | (simp; done) | (simp [*]; done)), H', ⟨by first | omega | exact Nat.le_refl _⟩, ⟨by (with_reducible repeat (first | apply Kd.N_alloc | apply Kd.N_drewN | apply Kd.N_drew)); exact Kd.N_mono HO247.out (fun _ hk => ⟨hk.1.1.1, hk.1.1.2.2⟩)⟩, ⟨by (with_reducible repeat first | apply Kd.R_alloc | apply Kd.R_drewN | apply Kd.R_drew); exact HO240.out⟩, ⟨by (with_reducible repeat first | refine blk_drewN ?_ _ | refine blk_drew ?_ | refine blk_alloc ?_ _); exact BK241.out⟩, ⟨by repeat (first | (with_reducible first | exact HB.out | apply below_alloc | apply pw_below_drewN | apply below_drew1 | refine below_set ?_ GE241.out) | exact HB.out)⟩⟩
   ·(rw [if_neg c28] at H);(have c28b0 : (t248 == 0) = false := beq_eq_false_iff_ne.mpr c28);(have c28b1 : (t248 != 0) = true := bne_iff_ne.mpr c28);((first | rw [c28b0] | (simp only [i64_w, i32_w]; rw [c28b0]) | skip))
    as_aux_lemma =>
     (have H' := Aside0.mk H);(clear H)
     go_wp2
     go_meet
     case rel => exact ⟨_, (true), (by first | rfl | (simp; done) | (simp [*]; done)), H', ⟨by first | omega | exact Nat.le_refl _⟩, ⟨by (with_reducible repeat (first | apply Kd.N_alloc | apply Kd.N_drewN | apply Kd.N_drew)); exact Kd.N_mono HO247.out (fun _ hk => ⟨hk.1.1.1, hk.1.1.2.2⟩)⟩, ⟨by (with_reducible repeat first | apply Kd.R_alloc | apply Kd.R_drewN | apply Kd.R_drew); exact HO240.out⟩, ⟨by (with_reducible repeat first | refine blk_drewN ?_ _ | refine blk_drew ?_ | refine blk_alloc ?_ _); exact BK241.out⟩, ⟨by repeat (first | (with_reducible first | exact HB.out | apply below_alloc | apply pw_below_drewN | apply below_drew1 | refine below_set ?_ GE241.out) | exact HB.out)⟩⟩
  case rest =>
   clear HC12
   try clear c1
   try clear c2
   try clear p2
   try clear c3
   try clear c6
   try clear c8
   try clear c10
   try clear c11
   try clear c13
   try clear c15
   try clear c28
   try clear c28b0
   try clear c28b1
   try clear c29
   try clear c29b0
   try clear c29b1
   try clear c30
   try clear c30b0
   try clear c30b1
   try clear hcz16_0
   try clear hcz16_1
   try clear hcz16_2
   try clear hcz16_3
   try clear hcz19_0
   try clear hcz19_1
   try clear hcz19_2
   try clear hcz19_3
   try clear hcz22_0
   try clear hcz22_1
   try clear hcz22_2
   try clear hcz22_3
   try clear hcz25_0
   try clear hcz25_1
   try clear hcz25_2
   try clear hcz25_3
   try clear hfz16_0
   try clear hfz16_1
   try clear hfz16_2
   try clear hfz16_3
   try clear hfz19_0
   try clear hfz19_1
   try clear hfz19_2
   try clear hfz19_3
   try clear hfz22_0
   try clear hfz22_1
   try clear hfz22_2
   try clear hfz22_3
   try clear hfz25_0
   try clear hfz25_1
   try clear hfz25_2
   try clear hfz25_3
   obtain ⟨kq, x67_11, rfl, HA, HJ11, HO_12, HO_242003, BK241, HB⟩ := hcut
   cases kq with
   | zero => exact absurd HA.out (by simp [racewaylaw15_DecompTwice.j0])
   | succ kj11 =>
    (have H := HA.out);(clear HA);(simp only [racewaylaw15_DecompTwice.j0] at H)
    by_cases c39 : x67_11 = true
    ·(subst c39);(have H1 : (some false) = some r := by rw [if_pos rfl] at H; exact H);(clear H);(have H := H1);(clear H1);(exact absurd ((Option.some.inj H).trans hrT_.out) (by simp))
    ·(replace c39 := Bool.eq_false_iff.mpr c39);(subst c39);(have H1 : (if (t245.length : Int) = 0 then (some true) else (if 1 ≤ (t245.length : Int) then ((decomp_Sum.f kj11 t235 t236 t237 t238 (t245.drop 1)).bind fun bt269 => ((decomp_Split.f kj11 t235 t236 t237 t238 bt269.1).bind fun bt273 => (if bt269.2 = 0 then (if bt273.2 = 0 then ((racewaylaw15_as.f kj11 bt273.1).bind fun t277 => ((racewaylaw15_as.f kj11 (t245.drop 1)).bind fun t285 => ((racewayref15_Same.f kj11 t277 t285).bind fun t288 => (some t288)))) else (some false)) else (some false)))) else (none))) = some r := by rw [if_neg (show ¬ (false = true) by decide)] at H; exact H);(clear H);(have H := H1);(clear H1)
     by_cases c40 : (t245.length : Int) = 0
     ·(rw [if_pos c40] at H);(have c40b0 : ((t245.length : Int) == 0) = true := beq_iff_eq.mpr c40);(have c40b1 : ((t245.length : Int) != 0) = false := bne_eq_false_iff_eq.mpr c40);(clear c40)
      as_aux_lemma =>
       obtain rfl := Option.some.inj H
       go_wp2
       go_ret
       exact ⟨by first | rfl | (simp [errW_none, errW_some] <;> rfl) | (simp [*, errW_none, errW_some] <;> rfl), by repeat (first | (with_reducible first | exact HB.out | apply below_alloc | apply pw_below_drewN | apply below_drew1 | refine below_set ?_ GE241.out) | exact HB.out)⟩
     ·(rw [if_neg c40] at H);(have c40b0 : ((t245.length : Int) == 0) = false := beq_eq_false_iff_ne.mpr c40);(have c40b1 : ((t245.length : Int) != 0) = true := bne_iff_ne.mpr c40);(have c40b2 : ¬ (t245 = []) := fun h_ => c40 (by rw [h_]; rfl))
      by_cases c41 : 1 ≤ (t245.length : Int)
      ·(rw [if_pos c41] at H);(have c41b0 := eq_true c41);(have c41b1 : decide (1 ≤ (t245.length : Int)) = true := decide_eq_true c41);(clear c41);(obtain ⟨y264, hy264⟩ : ∃ y_ : List (S36), y_ = (t245.drop 1) := ⟨_, rfl⟩);(replace H : ((decomp_Sum.f kj11 t235 t236 t237 t238 y264).bind fun bt269 => ((decomp_Split.f kj11 t235 t236 t237 t238 bt269.1).bind fun bt273 => (if bt269.2 = 0 then (if bt273.2 = 0 then ((racewaylaw15_as.f kj11 bt273.1).bind fun t277 => ((racewaylaw15_as.f kj11 (t245.drop 1)).bind fun t285 => ((racewayref15_Same.f kj11 t277 t285).bind fun t288 => (some t288)))) else (some false)) else (some false)))) = some r := by first | (rw [hy264]; with_reducible exact H) | (have H2_ := (Option.bind_some _ _).symm.trans H; rw [hy264]; with_reducible exact H2_) | (have H2_ := (Option.bind_some _ _).symm.trans H; with_reducible exact H2_) | with_reducible exact H | (rw [hy264]; exact H) | exact H);(have Ny264 := Aside0.mk hy264);(clear hy264);(replace H := Option.bind_eq_some_iff.mp H);(obtain ⟨⟨t269, t272⟩, A420, H⟩ := H);(replace H : ((decomp_Split.f kj11 t235 t236 t237 t238 t269).bind fun bt273 => (if t272 = 0 then (if bt273.2 = 0 then ((racewaylaw15_as.f kj11 bt273.1).bind fun t277 => ((racewaylaw15_as.f kj11 (t245.drop 1)).bind fun t285 => ((racewayref15_Same.f kj11 t277 t285).bind fun t288 => (some t288)))) else (some false)) else (some false))) = some r := H);(have A42 := Aside0.mk A420);(clear A420);(replace H := Option.bind_eq_some_iff.mp H);(obtain ⟨⟨t273, t276⟩, A430, H⟩ := H);(replace H : (if t272 = 0 then (if t276 = 0 then ((racewaylaw15_as.f kj11 t273).bind fun t277 => ((racewaylaw15_as.f kj11 (t245.drop 1)).bind fun t285 => ((racewayref15_Same.f kj11 t277 t285).bind fun t288 => (some t288)))) else (some false)) else (some false)) = some r := H);(have A43 := Aside0.mk A430);(clear A430)
       by_cases c44 : t272 = 0
       ·(rw [if_pos c44] at H);(have c44b0 : (t272 == 0) = true := beq_iff_eq.mpr c44);(have c44b1 : (t272 != 0) = false := bne_eq_false_iff_eq.mpr c44);(clear c44)
        by_cases c45 : t276 = 0
        ·(rw [if_pos c45] at H);(have c45b0 : (t276 == 0) = true := beq_iff_eq.mpr c45);(have c45b1 : (t276 != 0) = false := bne_eq_false_iff_eq.mpr c45);(clear c45);(replace H := Option.bind_eq_some_iff.mp H);(obtain ⟨t277, A460, H⟩ := H);(replace H : ((racewaylaw15_as.f kj11 (t245.drop 1)).bind fun t285 => ((racewayref15_Same.f kj11 t277 t285).bind fun t288 => (some t288))) = some r := H);(have A46 := Aside0.mk A460);(clear A460);(have c47b0 := eq_true (of_decide_eq_true (by first | (with_reducible assumption) | assumption) : 1 ≤ (t245.length : Int)));(obtain ⟨y280, hy280⟩ : ∃ y_ : List (S36), y_ = (t245.drop 1) := ⟨_, rfl⟩);(replace H : ((racewaylaw15_as.f kj11 y280).bind fun t285 => ((racewayref15_Same.f kj11 t277 t285).bind fun t288 => (some t288))) = some r := by first | (rw [hy280]; with_reducible exact H) | (have H2_ := (Option.bind_some _ _).symm.trans H; rw [hy280]; with_reducible exact H2_) | (have H2_ := (Option.bind_some _ _).symm.trans H; with_reducible exact H2_) | with_reducible exact H | (rw [hy280]; exact H) | exact H);(have Ny280 := Aside0.mk hy280);(clear hy280);(replace H := Option.bind_eq_some_iff.mp H);(obtain ⟨t285, A480, H⟩ := H);(replace H : ((racewayref15_Same.f kj11 t277 t285).bind fun t288 => (some t288)) = some r := H);(have A48 := Aside0.mk A480);(clear A480);(replace H := Option.bind_eq_some_iff.mp H);(obtain ⟨t288, A490, H⟩ := H);(replace H : (some t288) = some r := H);(have A49 := Aside0.mk A490);(clear A490)
         as_aux_lemma =>
          obtain rfl := Option.some.inj H
          try go_wp2
          (have n0_ := Aside0.mk (Kd.N_drew HO_12.out));(have n1_ := Aside0.mk (Kd.R_drew HO_242003.out));(have n2_ := Aside0.mk (blk_drew BK241.out));(have n3_ := Aside0.mk (below_drew1 HB.out));(clear HO_12);(clear HO_242003);(clear BK241);(clear HB);(have HO_12 := n0_);(have HO_242003 := n1_);(have BK241 := n2_);(have HB := n3_);(clear n0_ n1_ n2_ n3_);(have q51 : (1 : Int) ≤ ((t245.length : Int) : Int) := of_decide_eq_true (by first | (with_reducible assumption) | assumption));(obtain ⟨i051, hi051, _, hsz51, _⟩ := info_parts info36);(have hroom51 : t245.length ≤ co23 := (Kd.N_reads' HO_12.out).2.1);(have hC51 : Kd.F k36 _ _ Ao23 t245.length t245 := (Kd.V_at (base := w.heap.size) (Kd.N_V HO_12.out)).2.2);(have hcut51 := cut_from (P := Try.prog) 31 36 .i64 Try.underlying31 hi051 3 hsz51 Ao23 t245.length co23 1 (by omega) q51);(have hr51 := Kd.F_cut (m := (1 : Int).toNat) (c := co23) hC51 (by omega) hroom51);(obtain ⟨A51, hA51⟩ : ∃ A1, A1 = (if co23 = (1 : Int).toNat then Ao23 else (Ao23 : Option Addr).map (·.add ((1 : Int).toNat * 3))) := ⟨_, rfl⟩);(obtain ⟨c51, hc51⟩ : ∃ c1, c1 = co23 - (1 : Int).toNat := ⟨_, rfl⟩);(have hy51 : y264.length = t245.length - (1 : Int).toNat := (by rw [Ny264.out, List.length_drop] <;> omega));(rw [show (t245).drop (1 : Int).toNat = y264 from Ny264.out.symm] at hr51);(replace hr51 : Kd.F k36 _ _ A51 y264.length y264 := (by rw [hA51]; exact hr51));(rw [← hy51, ← hA51, ← hc51] at hcut51);(have HO268 := Aside0.mk (show Kd.V k36 36 _ w.heap.size _ (.slice A51 y264.length c51) y264 from Kd.V_mk (by rw [hy51, hc51]; exact Nat.sub_le_sub_right hroom51 _) hr51));(have HC268 := Aside0.mk (show y264.length ≤ c51 from by rw [hy51, hc51]; exact Nat.sub_le_sub_right hroom51 _));(clear hr51 hC51 hroom51 hi051 hsz51 hc51);(have KY51 := Aside0.mk hy51);(have KA51 := Aside0.mk hA51);(clear hy51 hA51);(replace q51 := eq_true q51);(refine start_ (n := 9) (S := fun w' => w'.cell? ⟨gb241, 0, none⟩ = some (.int .i64 t235) ∧ w'.cell? ⟨gb241, 1, none⟩ = some (.int .i64 t236) ∧ w'.cell? ⟨gb241, 2, none⟩ = some (.int .i64 t237) ∧ w'.cell? ⟨gb241, 3, none⟩ = some (.slice Ao17 t238.length co17)) (ds := []) #[false, false, false, false, false, false, false, false, false] (by kernel_rfl) rfl rfl ⟨(blk_cell BK241.out 0).trans rfl, (blk_cell BK241.out 1).trans rfl, (blk_cell BK241.out 2).trans rfl, (blk_cell BK241.out 3).trans rfl⟩ (fun hHeld => ?_); refine with_tabW racewaylaw15_DecompTwice.tab13 racewaylaw15_DecompTwice.bits13 (fun HT_ HW_ => ?_));(generalize wc.drew = w50 at HO_12 HO_242003 BK241 HB HO268 hHeld ⊢);(refine pure_ (i := 1) (N := some 73) (v := ?_) (a' := ?_) #[false, true, false, false, false, false, false, false, false] rfl rfl (any_of HT_.out (by kernel_rfl)) (fun _ _ _ h => h) (Or.inl ⟨by rfl, ?_⟩) ?_ ?_)
          rotate_left
          ·intro w'
           go_simp
           with_reducible rfl
          rotate_left
          ·simp only [Act.put, List.setIfInBounds_toArray, List.set_cons_zero, List.set_cons_succ, i64_w, i32_w]
           rfl
          refine pure_ (i := 2) (N := some 74) (v := ?_) (a' := ?_) #[false, true, true, false, false, false, false, false, false] rfl rfl (any_of HT_.out (by kernel_rfl)) (fun _ _ _ h => h) (Or.inl ⟨by rfl, ?_⟩) ?_ ?_
          rotate_left
          ·intro w'
           go_simp
           with_reducible rfl
          rotate_left
          ·simp only [Act.put, List.setIfInBounds_toArray, List.set_cons_zero, List.set_cons_succ, i64_w, i32_w]
           rfl
          refine take_ (i := 0) (N := some 72) (v := ?_) (a' := ?_) #[true, true, true, false, false, false, false, false, false] rfl rfl (take_ofW HT_.out HW_.out (by kernel_rfl)) (fun _ _ _ h => h) (Or.inl ⟨by rfl, ?_⟩) hHeld ?_ ?_
          rotate_left
          ·rintro w' ⟨s0, s1, s2, s3⟩
           go_simp
           with_reducible rfl
          rotate_left
          ·simp only [Act.put, List.setIfInBounds_toArray, List.set_cons_zero, List.set_cons_succ, i64_w, i32_w]
           rfl
          (refine one_ (i := 3) (N := some 75) #[true, true, true, true, false, false, false, false, false] rfl rfl (one_of HT_.out (by kernel_rfl)) (by decide) (fun K hK => ?_));(refine goes_ Try.func15 (by kernel_rfl) rfl #[.agg #[.int .i64 t235, .int .i64 t236, .int .i64 t237, .slice Ao17 t238.length co17], .slice A51 y264.length c51] (by rfl) rfl rfl (by (try simp only [List.map_toArray, List.map_cons, List.map_nil]); first | done | rfl | (simp only [List.length_drop, List.length_take]; rfl)) ?_)
          with_reducible refine (decomp_Sum.calls kj11 t235 t236 t237 _ _ t238 _ _ y264 t269 t272 _ ?side1 ?side2 ?side3 ?side4 A42.out).mono ?_
          (case side1 => repeat (first | exact (Kd.R_reads' HO_242003.out).2.2 | (with_reducible refine Kd.C_alloc ?_ _) | (with_reducible refine Kd.C_drewN ?_ _) | (with_reducible refine Kd.C_drew ?_)))
          (case side2 => exact (Kd.R_reads' HO_242003.out).2.1)
          (case side3 => repeat (first | exact (Kd.V_reads' HO268.out).2.2 | (with_reducible refine Kd.C_alloc ?_ _) | (with_reducible refine Kd.C_drewN ?_ _) | (with_reducible refine Kd.C_drew ?_)))
          (case side4 => exact (Kd.V_reads' HO268.out).2.1)
          (rintro e w52 ⟨v270, rfl, ho0, hb⟩);(refine ⟨_, rfl, ?_⟩);(have n0_ := Aside0.mk (Kd.N_elder' (by (with_reducible repeat (first | apply Kd.N_alloc | apply Kd.N_drewN | apply Kd.N_drew)); exact HO_12.out) (Kd.R_base ho0) hb));(have n1_ := Aside0.mk (Kd.R_below (by (with_reducible repeat first | apply Kd.R_alloc | apply Kd.R_drewN | apply Kd.R_drew); exact HO_242003.out) hb));(have n2_ := Aside0.mk (Kd.V_elder' (by (with_reducible repeat (first | apply Kd.V_alloc | apply Kd.V_drewN | apply Kd.V_drew)); exact HO268.out) (Kd.R_base ho0) hb));(have n3_ := Aside0.mk (Kd.R_lower ho0 (below_size (by repeat (first | (with_reducible first | exact HB.out | apply below_alloc | apply pw_below_drewN | apply below_drew1 | refine below_set ?_ GE241.out) | exact HB.out)))));(have n4_ := Aside0.mk (blk_below (g := gb241) (o := .cells #[.int .i64 t235, .int .i64 t236, .int .i64 t237, .slice Ao17 t238.length co17] 26 (0, 0)) (by (with_reducible repeat first | refine blk_drewN ?_ _ | refine blk_drew ?_ | refine blk_alloc ?_ _); exact BK241.out) hb));(have n5_ := Aside0.mk (below_step (by repeat (first | (with_reducible first | exact HB.out | apply below_alloc | apply pw_below_drewN | apply below_drew1 | refine below_set ?_ GE241.out) | exact HB.out)) hb));(clear HO_12);(clear HO_242003);(clear HO268);(clear BK241);(clear HB);(have HO_12 := n0_);(have HO_242003 := n1_);(have HO268 := n2_);(have HO271 := n3_);(have BK241 := n4_);(have HB := n5_);(clear n0_ n1_ n2_ n3_ n4_ n5_);((try clear hb));((try clear hb2));((try clear hk));((try clear hi));((try clear ho0));(refine hK.out _ _ ⟨(blk_cell BK241.out 0).trans rfl, (blk_cell BK241.out 1).trans rfl, (blk_cell BK241.out 2).trans rfl, (blk_cell BK241.out 3).trans rfl⟩ (fun hHeld => ?_));(clear hK K);(refine norm_ (a' := ?_) ?_ ?_)
          rotate_left
          ·show Act.put _ (some 75) _ = _
           simp only [Act.put, List.setIfInBounds_toArray, List.set_cons_zero, List.set_cons_succ, i64_w, i32_w]
           rfl
          refine pure_ (i := 4) (N := some 71) (v := ?_) (a' := ?_) #[true, true, true, true, true, false, false, false, false] rfl rfl (any_of HT_.out (by kernel_rfl)) (fun _ _ _ h => h) (Or.inl ⟨by rfl, ?_⟩) ?_ ?_
          rotate_left
          ·intro w'
           go_simp
           with_reducible rfl
          rotate_left
          ·simp only [Act.put, List.setIfInBounds_toArray, List.set_cons_zero, List.set_cons_succ, i64_w, i32_w]
           rfl
          refine pure_ (i := 5) (N := some 76) (v := ?_) (a' := ?_) #[true, true, true, true, true, true, false, false, false] rfl rfl (any_of HT_.out (by kernel_rfl)) (fun _ _ _ h => h) (Or.inl ⟨by rfl, ?_⟩) ?_ ?_
          rotate_left
          ·intro w'
           go_simp
           with_reducible rfl
          rotate_left
          ·simp only [Act.put, List.setIfInBounds_toArray, List.set_cons_zero, List.set_cons_succ, i64_w, i32_w]
           rfl
          refine pure_ (i := 6) (N := some 77) (v := ?_) (a' := ?_) #[true, true, true, true, true, true, true, false, false] rfl rfl (any_of HT_.out (by kernel_rfl)) (fun _ _ _ h => h) (Or.inl ⟨by rfl, ?_⟩) ?_ ?_
          rotate_left
          ·intro w'
           go_simp
           with_reducible rfl
          rotate_left
          ·simp only [Act.put, List.setIfInBounds_toArray, List.set_cons_zero, List.set_cons_succ, i64_w, i32_w]
           rfl
          refine pure_ (i := 7) (N := some 18) (v := ?_) (a' := ?_) #[true, true, true, true, true, true, true, true, false] rfl rfl (any_of HT_.out (by kernel_rfl)) (fun _ _ _ h => h) (Or.inl ⟨by rfl, ?_⟩) ?_ ?_
          rotate_left
          ·intro w'
           go_simp
           with_reducible rfl
          rotate_left
          ·simp only [Act.put, List.setIfInBounds_toArray, List.set_cons_zero, List.set_cons_succ, i64_w, i32_w]
           rfl
          refine pure_ (i := 8) (N := some 19) (v := ?_) (a' := ?_) #[true, true, true, true, true, true, true, true, true] rfl rfl (any_of HT_.out (by kernel_rfl)) (fun _ _ _ h => h) (Or.inl ⟨by rfl, ?_⟩) ?_ ?_
          rotate_left
          ·intro w'
           go_simp
           with_reducible rfl
          rotate_left
          ·simp only [Act.put, List.setIfInBounds_toArray, List.set_cons_zero, List.set_cons_succ, i64_w, i32_w]
           rfl
          (refine done_ (done_of HT_.out (by kernel_rfl)) ?_);(have hcz53_0 : w52.cell? ⟨gb241, 0, none⟩ = some (.int .i64 t235) := (blk_cell BK241.out 0).trans rfl);(have hcz53_1 : w52.cell? ⟨gb241, 1, none⟩ = some (.int .i64 t236) := (blk_cell BK241.out 1).trans rfl);(have hcz53_2 : w52.cell? ⟨gb241, 2, none⟩ = some (.int .i64 t237) := (blk_cell BK241.out 2).trans rfl);(have hcz53_3 : w52.cell? ⟨gb241, 3, none⟩ = some (.slice Ao17 t238.length co17) := (blk_cell BK241.out 3).trans rfl);(have hfz53_0 := blk_frozen BK241.out 0);(have hfz53_1 := blk_frozen BK241.out 1);(have hfz53_2 := blk_frozen BK241.out 2);(have hfz53_3 := blk_frozen BK241.out 3);(obtain ⟨Ao54, co54, eo54⟩ := Kd.R_slice HO271.out);(subst eo54)
          try go_wp2_with (first | ((with_reducible refine gate_callee (f := 10) rfl ?_); refine goesL_ (some 81) rfl rfl Try.func10 (by kernel_rfl) rfl #[.agg #[.int .i64 t235, .int .i64 t236, .int .i64 t237, .slice Ao17 t238.length co17], .slice Ao54 t269.length co54] rfl (by (try simp only [List.map_toArray, List.map_cons, List.map_nil]); first | done | rfl | (simp only [List.length_drop, List.length_take]; rfl)) ?_; (with_reducible refine (decomp_Split.calls kj11 t235 t236 t237 _ _ t238 _ _ t269 t273 t276 _ ?side1 ?side2 ?side3 ?side4 A43.out).mono ?_); (case side1 => repeat (first | exact (Kd.R_reads' HO_242003.out).2.2 | (with_reducible refine Kd.C_alloc ?_ _) | (with_reducible refine Kd.C_drewN ?_ _) | (with_reducible refine Kd.C_drew ?_))); (case side2 => exact (Kd.R_reads' HO_242003.out).2.1); (case side3 => repeat (first | exact (Kd.R_reads' HO271.out).2.2 | (with_reducible refine Kd.C_alloc ?_ _) | (with_reducible refine Kd.C_drewN ?_ _) | (with_reducible refine Kd.C_drew ?_))); (case side4 => exact (Kd.R_reads' HO271.out).2.1); rintro e w55 ⟨v274, rfl, ho0, hb⟩; refine ⟨_, rfl, ?_⟩; have n0_ := Aside0.mk (Kd.N_elder' (by (with_reducible repeat (first | apply Kd.N_alloc | apply Kd.N_drewN | apply Kd.N_drew)); exact HO_12.out) (by first | exact Kd.N_base ho0 | exact Kd.S_base ho0) hb); have n1_ := Aside0.mk (Kd.R_below (by (with_reducible repeat first | apply Kd.R_alloc | apply Kd.R_drewN | apply Kd.R_drew); exact HO_242003.out) hb); have n2_ := Aside0.mk (Kd.V_elder' (by (with_reducible repeat (first | apply Kd.V_alloc | apply Kd.V_drewN | apply Kd.V_drew)); exact HO268.out) (by first | exact Kd.N_base ho0 | exact Kd.S_base ho0) hb); have n3_ := Aside0.mk (Kd.R_below (by (with_reducible repeat first | apply Kd.R_alloc | apply Kd.R_drewN | apply Kd.R_drew); exact HO271.out) hb); have n4_ := Aside0.mk (Kd.N_lower (Kd.N_mono (ok' := fun k_ => some k_ ≠ (.slice Ao23 t245.length co23 : Value).ownBlock ∧ some k_ ≠ (.slice Ao17 t238.length co17 : Value).ownBlock ∧ some k_ ≠ (.slice Ao54 t269.length co54 : Value).ownBlock ∧ k_ ≠ gb241) (Kd.S_N (Kd.S_bound ho0)) (fun k_ hk_ => ⟨(Kd.fresh' (Kd.N_lt (by (with_reducible repeat (first | apply Kd.N_alloc | apply Kd.N_drewN | apply Kd.N_drew)); exact HO_12.out)) k_ hk_.2.1), (Kd.fresh' (Kd.R_lt (by (with_reducible repeat first | apply Kd.R_alloc | apply Kd.R_drewN | apply Kd.R_drew); exact HO_242003.out)) k_ hk_.2.1), (Kd.fresh' (Kd.R_lt (by (with_reducible repeat first | apply Kd.R_alloc | apply Kd.R_drewN | apply Kd.R_drew); exact HO271.out)) k_ hk_.2.1), (Kd.freshB (g := gb241) (o := .cells #[.int .i64 t235, .int .i64 t236, .int .i64 t237, .slice Ao17 t238.length co17] 26 (0, 0)) (by (with_reducible repeat first | refine blk_drewN ?_ _ | refine blk_drew ?_ | refine blk_alloc ?_ _); exact BK241.out) k_ hk_.2.1)⟩)) (below_size (by repeat (first | (with_reducible first | exact HB.out | apply below_alloc | apply pw_below_drewN | apply below_drew1 | refine below_set ?_ GE241.out) | exact HB.out)))); have n5_ := Aside0.mk (blk_below (g := gb241) (o := .cells #[.int .i64 t235, .int .i64 t236, .int .i64 t237, .slice Ao17 t238.length co17] 26 (0, 0)) (by (with_reducible repeat first | refine blk_drewN ?_ _ | refine blk_drew ?_ | refine blk_alloc ?_ _); exact BK241.out) hb); have n6_ := Aside0.mk (below_step (by repeat (first | (with_reducible first | exact HB.out | apply below_alloc | apply pw_below_drewN | apply below_drew1 | refine below_set ?_ GE241.out) | exact HB.out)) hb); clear HO_12; clear HO_242003; clear HO268; clear HO271; clear BK241; clear HB; have HO_12 := n0_; have HO_242003 := n1_; have HO268 := n2_; have HO271 := n3_; have HO275 := n4_; have BK241 := n5_; have HB := n6_; clear n0_ n1_ n2_ n3_ n4_ n5_ n6_; (try clear hb); (try clear hb2); (try clear hk); (try clear hi); (try clear ho0)))
          (have n0_ := Aside0.mk (Kd.N_drew HO_12.out));(have n1_ := Aside0.mk (Kd.R_drew HO_242003.out));(have n2_ := Aside0.mk (Kd.V_drew HO268.out));(have n3_ := Aside0.mk (Kd.R_drew HO271.out));(have n4_ := Aside0.mk (Kd.N_drew HO275.out));(have n5_ := Aside0.mk (blk_drew BK241.out));(have n6_ := Aside0.mk (below_drew1 HB.out));(clear HO_12);(clear HO_242003);(clear HO268);(clear HO271);(clear HO275);(clear BK241);(clear HB);(have HO_12 := n0_);(have HO_242003 := n1_);(have HO268 := n2_);(have HO271 := n3_);(have HO275 := n4_);(have BK241 := n5_);(have HB := n6_);(clear n0_ n1_ n2_ n3_ n4_ n5_ n6_);(have q57 : (1 : Int) ≤ ((t245.length : Int) : Int) := of_decide_eq_true (by first | (with_reducible assumption) | assumption));(obtain ⟨i057, hi057, _, hsz57, _⟩ := info_parts info36);(have hroom57 : t245.length ≤ co23 := (Kd.N_reads' HO_12.out).2.1);(have hC57 : Kd.F k36 _ _ Ao23 t245.length t245 := (Kd.V_at (base := w.heap.size) (Kd.N_V HO_12.out)).2.2);(have hcut57 := cut_from (P := Try.prog) 31 36 .i64 Try.underlying31 hi057 3 hsz57 Ao23 t245.length co23 1 (by omega) q57);(have hr57 := Kd.F_cut (m := (1 : Int).toNat) (c := co23) hC57 (by omega) hroom57);(obtain ⟨A57, hA57⟩ : ∃ A1, A1 = (if co23 = (1 : Int).toNat then Ao23 else (Ao23 : Option Addr).map (·.add ((1 : Int).toNat * 3))) := ⟨_, rfl⟩);(obtain ⟨c57, hc57⟩ : ∃ c1, c1 = co23 - (1 : Int).toNat := ⟨_, rfl⟩);(have hy57 : y280.length = t245.length - (1 : Int).toNat := (by rw [Ny280.out, List.length_drop] <;> omega));(rw [show (t245).drop (1 : Int).toNat = y280 from Ny280.out.symm] at hr57);(replace hr57 : Kd.F k36 _ _ A57 y280.length y280 := (by rw [hA57]; exact hr57));(rw [← hy57, ← hA57, ← hc57] at hcut57);((try clear hcut51));(have HO284 := Aside0.mk (show Kd.V k36 36 _ w.heap.size _ (.slice A57 y280.length c57) y280 from Kd.V_mk (by rw [hy57, hc57]; exact Nat.sub_le_sub_right hroom57 _) hr57));(have HC284 := Aside0.mk (show y280.length ≤ c57 from by rw [hy57, hc57]; exact Nat.sub_le_sub_right hroom57 _));(clear hr57 hC57 hroom57 hi057 hsz57 hc57);(have KY57 := Aside0.mk hy57);(have KA57 := Aside0.mk hA57);(clear hy57 hA57);(replace q57 := eq_true q57);(obtain ⟨Ao58, co58, eo58⟩ := Kd.N_slice HO275.out);((first | subst eo58 | (injection eo58 with f1_ f2_ f3_; have f4_ := f1_.symm; have f5_ := f3_.symm; clear f1_ f2_ f3_; subst f4_; subst f5_)));(refine start_ (n := 15) (S := fun w' => True) (ds := []) #[false, false, false, false, false, false, false, false, false, false, false, false, false, false, false] (by kernel_rfl) rfl rfl trivial (fun hHeld => ?_); refine with_tabW racewaylaw15_DecompTwice.tab15 racewaylaw15_DecompTwice.bits15 (fun HT_ HW_ => ?_));(generalize w55.drew = w56 at HO_12 HO_242003 HO268 HO271 HO275 BK241 HB HO284 hHeld ⊢);(refine pure_ (i := 0) (N := some 84) (v := ?_) (a' := ?_) #[true, false, false, false, false, false, false, false, false, false, false, false, false, false, false] rfl rfl (any_of HT_.out (by kernel_rfl)) (fun _ _ _ h => h) (Or.inl ⟨by rfl, ?_⟩) ?_ ?_)
          rotate_left
          ·intro w'
           go_simp
           with_reducible rfl
          rotate_left
          ·simp only [Act.put, List.setIfInBounds_toArray, List.set_cons_zero, List.set_cons_succ, i64_w, i32_w]
           rfl
          refine pure_ (i := 1) (N := some 85) (v := ?_) (a' := ?_) #[true, true, false, false, false, false, false, false, false, false, false, false, false, false, false] rfl rfl (any_of HT_.out (by kernel_rfl)) (fun _ _ _ h => h) (Or.inl ⟨by rfl, ?_⟩) ?_ ?_
          rotate_left
          ·intro w'
           go_simp
           with_reducible rfl
          rotate_left
          ·simp only [Act.put, List.setIfInBounds_toArray, List.set_cons_zero, List.set_cons_succ, i64_w, i32_w]
           rfl
          refine pure_ (i := 2) (N := some 86) (v := ?_) (a' := ?_) #[true, true, true, false, false, false, false, false, false, false, false, false, false, false, false] rfl rfl (any_of HT_.out (by kernel_rfl)) (fun _ _ _ h => h) (Or.inl ⟨by rfl, ?_⟩) ?_ ?_
          rotate_left
          ·intro w'
           go_simp
           with_reducible rfl
          rotate_left
          ·simp only [Act.put, List.setIfInBounds_toArray, List.set_cons_zero, List.set_cons_succ, i64_w, i32_w]
           rfl
          refine pure_ (i := 3) (N := some 87) (v := ?_) (a' := ?_) #[true, true, true, true, false, false, false, false, false, false, false, false, false, false, false] rfl rfl (any_of HT_.out (by kernel_rfl)) (fun _ _ _ h => h) (Or.inl ⟨by rfl, ?_⟩) ?_ ?_
          rotate_left
          ·intro w'
           go_simp
           with_reducible rfl
          rotate_left
          ·simp only [Act.put, List.setIfInBounds_toArray, List.set_cons_zero, List.set_cons_succ, i64_w, i32_w]
           rfl
          refine pure_ (i := 4) (N := some 88) (v := ?_) (a' := ?_) #[true, true, true, true, true, false, false, false, false, false, false, false, false, false, false] rfl rfl (any_of HT_.out (by kernel_rfl)) (fun _ _ _ h => h) (Or.inl ⟨by rfl, ?_⟩) ?_ ?_
          rotate_left
          ·intro w'
           go_simp
           with_reducible rfl
          rotate_left
          ·simp only [Act.put, List.setIfInBounds_toArray, List.set_cons_zero, List.set_cons_succ, i64_w, i32_w]
           rfl
          refine pure_ (i := 5) (N := some 89) (v := ?_) (a' := ?_) #[true, true, true, true, true, true, false, false, false, false, false, false, false, false, false] rfl rfl (any_of HT_.out (by kernel_rfl)) (fun _ _ _ h => h) (Or.inl ⟨by rfl, ?_⟩) ?_ ?_
          rotate_left
          ·intro w'
           go_simp
           with_reducible rfl
          rotate_left
          ·simp only [Act.put, List.setIfInBounds_toArray, List.set_cons_zero, List.set_cons_succ, i64_w, i32_w]
           rfl
          refine pure_ (i := 6) (N := some 90) (v := ?_) (a' := ?_) #[true, true, true, true, true, true, true, false, false, false, false, false, false, false, false] rfl rfl (any_of HT_.out (by kernel_rfl)) (fun _ _ _ h => h) (Or.inl ⟨by rfl, ?_⟩) ?_ ?_
          rotate_left
          ·intro w'
           go_simp
           with_reducible rfl
          rotate_left
          ·simp only [Act.put, List.setIfInBounds_toArray, List.set_cons_zero, List.set_cons_succ, i64_w, i32_w]
           rfl
          refine pure_ (i := 7) (N := some 91) (v := ?_) (a' := ?_) #[true, true, true, true, true, true, true, true, false, false, false, false, false, false, false] rfl rfl (any_of HT_.out (by kernel_rfl)) (fun _ _ _ h => h) (Or.inl ⟨by rfl, ?_⟩) ?_ ?_
          rotate_left
          ·intro w'
           go_simp
           with_reducible rfl
          rotate_left
          ·simp only [Act.put, List.setIfInBounds_toArray, List.set_cons_zero, List.set_cons_succ, i64_w, i32_w]
           rfl
          refine pure_ (i := 9) (N := some 93) (v := ?_) (a' := ?_) #[true, true, true, true, true, true, true, true, false, true, false, false, false, false, false] rfl rfl (any_of HT_.out (by kernel_rfl)) (fun _ _ _ h => h) (Or.inl ⟨by rfl, ?_⟩) ?_ ?_
          rotate_left
          ·intro w'
           go_simp
           with_reducible rfl
          rotate_left
          ·simp only [Act.put, List.setIfInBounds_toArray, List.set_cons_zero, List.set_cons_succ, i64_w, i32_w]
           rfl
          refine pure_ (i := 10) (N := some 94) (v := ?_) (a' := ?_) #[true, true, true, true, true, true, true, true, false, true, true, false, false, false, false] rfl rfl (any_of HT_.out (by kernel_rfl)) (fun _ _ _ h => h) (Or.inl ⟨by rfl, ?_⟩) ?_ ?_
          rotate_left
          ·intro w'
           go_simp
           with_reducible rfl
          rotate_left
          ·simp only [Act.put, List.setIfInBounds_toArray, List.set_cons_zero, List.set_cons_succ, i64_w, i32_w]
           rfl
          (refine one_ (i := 8) (N := some 92) #[true, true, true, true, true, true, true, true, true, true, true, false, false, false, false] rfl rfl (one_of HT_.out (by kernel_rfl)) (by decide) (fun K hK => ?_));(refine goes_ Try.func18 (by kernel_rfl) rfl #[.slice Ao58 t273.length co58] (by rfl) rfl rfl (by (try simp only [List.map_toArray, List.map_cons, List.map_nil]); first | done | rfl | (simp only [List.length_drop, List.length_take]; rfl)) ?_)
          with_reducible refine (racewaylaw15_as.calls kj11 (fun k_ => (some k_ ≠ (.slice Ao23 t245.length co23 : Value).ownBlock ∧ (some k_ ≠ (.slice Ao17 t238.length co17 : Value).ownBlock ∧ (some k_ ≠ (.slice Ao54 t269.length co54 : Value).ownBlock ∧ k_ ≠ gb241)))) _ _ t273 t277 _ ?side1 A46.out).mono ?_
          (case side1 => exact Kd.N_V (HO275.out))
          (rintro e w59 ⟨v278, rfl, ho0, hb⟩);(refine ⟨_, rfl, ?_⟩);(have n0_ := Aside0.mk (Kd.N_elder' (by (with_reducible repeat (first | apply Kd.N_alloc | apply Kd.N_drewN | apply Kd.N_drew)); exact HO_12.out) (by first | exact Kd.N_base ho0 | exact Kd.S_base ho0) hb));(have n1_ := Aside0.mk (Kd.R_below (by (with_reducible repeat first | apply Kd.R_alloc | apply Kd.R_drewN | apply Kd.R_drew); exact HO_242003.out) hb));(have n2_ := Aside0.mk (Kd.V_elder' (by (with_reducible repeat (first | apply Kd.V_alloc | apply Kd.V_drewN | apply Kd.V_drew)); exact HO268.out) (by first | exact Kd.N_base ho0 | exact Kd.S_base ho0) hb));(have n3_ := Aside0.mk (Kd.R_below (by (with_reducible repeat first | apply Kd.R_alloc | apply Kd.R_drewN | apply Kd.R_drew); exact HO271.out) hb));(have n4_ := Aside0.mk (Kd.N_elder' (by (with_reducible repeat (first | apply Kd.N_alloc | apply Kd.N_drewN | apply Kd.N_drew)); exact HO275.out) (by first | exact Kd.N_base ho0 | exact Kd.S_base ho0) hb));(have n5_ := Aside0.mk (Kd.V_elder' (by (with_reducible repeat (first | apply Kd.V_alloc | apply Kd.V_drewN | apply Kd.V_drew)); exact HO284.out) (by first | exact Kd.N_base ho0 | exact Kd.S_base ho0) hb));(have n6_ := Aside0.mk (Kd.N_lower (Kd.N_mono (ok' := fun k_ => some k_ ≠ (.slice Ao23 t245.length co23 : Value).ownBlock ∧ some k_ ≠ (.slice Ao17 t238.length co17 : Value).ownBlock ∧ some k_ ≠ (.slice Ao54 t269.length co54 : Value).ownBlock ∧ k_ ≠ gb241) ho0 (fun k_ hk_ => ⟨Or.elim hk_ (fun hs_ => hs_.1) (fun hn_ => (Kd.fresh' (Kd.N_lt (by (with_reducible repeat (first | apply Kd.N_alloc | apply Kd.N_drewN | apply Kd.N_drew)); exact HO_12.out)) k_ hn_)), Or.elim hk_ (fun hs_ => hs_.2.1) (fun hn_ => (Kd.fresh' (Kd.R_lt (by (with_reducible repeat first | apply Kd.R_alloc | apply Kd.R_drewN | apply Kd.R_drew); exact HO_242003.out)) k_ hn_)), Or.elim hk_ (fun hs_ => hs_.2.2.1) (fun hn_ => (Kd.fresh' (Kd.R_lt (by (with_reducible repeat first | apply Kd.R_alloc | apply Kd.R_drewN | apply Kd.R_drew); exact HO271.out)) k_ hn_)), Or.elim hk_ (fun hs_ => hs_.2.2.2) (fun hn_ => (Kd.freshB (g := gb241) (o := .cells #[.int .i64 t235, .int .i64 t236, .int .i64 t237, .slice Ao17 t238.length co17] 26 (0, 0)) (by (with_reducible repeat first | refine blk_drewN ?_ _ | refine blk_drew ?_ | refine blk_alloc ?_ _); exact BK241.out) k_ hn_))⟩)) (below_size (by repeat (first | (with_reducible first | exact HB.out | apply below_alloc | apply pw_below_drewN | apply below_drew1 | refine below_set ?_ GE241.out) | exact HB.out)))));(have n7_ := Aside0.mk (blk_below (g := gb241) (o := .cells #[.int .i64 t235, .int .i64 t236, .int .i64 t237, .slice Ao17 t238.length co17] 26 (0, 0)) (by (with_reducible repeat first | refine blk_drewN ?_ _ | refine blk_drew ?_ | refine blk_alloc ?_ _); exact BK241.out) hb));(have n8_ := Aside0.mk (below_step (by repeat (first | (with_reducible first | exact HB.out | apply below_alloc | apply pw_below_drewN | apply below_drew1 | refine below_set ?_ GE241.out) | exact HB.out)) hb));(clear HO_12);(clear HO_242003);(clear HO268);(clear HO271);(clear HO275);(clear HO284);(clear BK241);(clear HB);(have HO_12 := n0_);(have HO_242003 := n1_);(have HO268 := n2_);(have HO271 := n3_);(have HO275 := n4_);(have HO284 := n5_);(have HO279 := n6_);(have BK241 := n7_);(have HB := n8_);(clear n0_ n1_ n2_ n3_ n4_ n5_ n6_ n7_ n8_);((try clear hb));((try clear hb2));((try clear hk));((try clear hi));((try clear ho0));(refine hK.out _ _ trivial (fun hHeld => ?_));(clear hK K);(refine norm_ (a' := ?_) ?_ ?_)
          rotate_left
          ·show Act.put _ (some 92) _ = _
           simp only [Act.put, List.setIfInBounds_toArray, List.set_cons_zero, List.set_cons_succ, i64_w, i32_w]
           rfl
          (refine one_ (i := 11) (N := some 95) #[true, true, true, true, true, true, true, true, true, true, true, true, false, false, false] rfl rfl (one_of HT_.out (by kernel_rfl)) (by decide) (fun K hK => ?_));(refine goes_ Try.func18 (by kernel_rfl) rfl #[.slice A57 y280.length c57] (by rfl) rfl rfl (by (try simp only [List.map_toArray, List.map_cons, List.map_nil]); first | done | rfl | (simp only [List.length_drop, List.length_take]; rfl)) ?_)
          with_reducible refine (racewaylaw15_as.calls kj11 (fun k_ => ((((some k_ ≠ (.slice Ao17 t238.length co17 : Value).ownBlock ∧ k_ ≠ gb241) ∧ some k_ ≠ (.slice Ao54 t269.length co54 : Value).ownBlock) ∧ some k_ ≠ (.slice Ao58 t273.length co58 : Value).ownBlock) ∧ some k_ ≠ (v278 : Value).ownBlock)) _ _ y280 t285 _ ?side1 A48.out).mono ?_
          (case side1 => exact HO284.out)
          (rintro e w60 ⟨v286, rfl, ho0, hb⟩);(refine ⟨_, rfl, ?_⟩);(have n0_ := Aside0.mk (Kd.N_elder' (by (with_reducible repeat (first | apply Kd.N_alloc | apply Kd.N_drewN | apply Kd.N_drew)); exact HO_12.out) (by first | exact Kd.N_base ho0 | exact Kd.S_base ho0) hb));(have n1_ := Aside0.mk (Kd.R_below (by (with_reducible repeat first | apply Kd.R_alloc | apply Kd.R_drewN | apply Kd.R_drew); exact HO_242003.out) hb));(have n2_ := Aside0.mk (Kd.V_elder' (by (with_reducible repeat (first | apply Kd.V_alloc | apply Kd.V_drewN | apply Kd.V_drew)); exact HO268.out) (by first | exact Kd.N_base ho0 | exact Kd.S_base ho0) hb));(have n3_ := Aside0.mk (Kd.R_below (by (with_reducible repeat first | apply Kd.R_alloc | apply Kd.R_drewN | apply Kd.R_drew); exact HO271.out) hb));(have n4_ := Aside0.mk (Kd.N_elder' (by (with_reducible repeat (first | apply Kd.N_alloc | apply Kd.N_drewN | apply Kd.N_drew)); exact HO275.out) (by first | exact Kd.N_base ho0 | exact Kd.S_base ho0) hb));(have n5_ := Aside0.mk (Kd.V_elder' (by (with_reducible repeat (first | apply Kd.V_alloc | apply Kd.V_drewN | apply Kd.V_drew)); exact HO284.out) (by first | exact Kd.N_base ho0 | exact Kd.S_base ho0) hb));(have n6_ := Aside0.mk (Kd.N_elder' (by (with_reducible repeat (first | apply Kd.N_alloc | apply Kd.N_drewN | apply Kd.N_drew)); exact HO279.out) (by first | exact Kd.N_base ho0 | exact Kd.S_base ho0) hb));(have n7_ := Aside0.mk (Kd.N_lower (Kd.N_mono (ok' := fun k_ => some k_ ≠ (.slice Ao17 t238.length co17 : Value).ownBlock ∧ some k_ ≠ (.slice Ao54 t269.length co54 : Value).ownBlock ∧ some k_ ≠ (.slice Ao58 t273.length co58 : Value).ownBlock ∧ some k_ ≠ (v278 : Value).ownBlock ∧ k_ ≠ gb241) ho0 (fun k_ hk_ => ⟨Or.elim hk_ (fun hs_ => hs_.1.1.1.1) (fun hn_ => (Kd.fresh' (Kd.R_lt (by (with_reducible repeat first | apply Kd.R_alloc | apply Kd.R_drewN | apply Kd.R_drew); exact HO_242003.out)) k_ hn_)), Or.elim hk_ (fun hs_ => hs_.1.1.2) (fun hn_ => (Kd.fresh' (Kd.R_lt (by (with_reducible repeat first | apply Kd.R_alloc | apply Kd.R_drewN | apply Kd.R_drew); exact HO271.out)) k_ hn_)), Or.elim hk_ (fun hs_ => hs_.1.2) (fun hn_ => (Kd.fresh' (Kd.N_lt (by (with_reducible repeat (first | apply Kd.N_alloc | apply Kd.N_drewN | apply Kd.N_drew)); exact HO275.out)) k_ hn_)), Or.elim hk_ (fun hs_ => hs_.2) (fun hn_ => (Kd.fresh' (Kd.N_lt (by (with_reducible repeat (first | apply Kd.N_alloc | apply Kd.N_drewN | apply Kd.N_drew)); exact HO279.out)) k_ hn_)), Or.elim hk_ (fun hs_ => hs_.1.1.1.2) (fun hn_ => (Kd.freshB (g := gb241) (o := .cells #[.int .i64 t235, .int .i64 t236, .int .i64 t237, .slice Ao17 t238.length co17] 26 (0, 0)) (by (with_reducible repeat first | refine blk_drewN ?_ _ | refine blk_drew ?_ | refine blk_alloc ?_ _); exact BK241.out) k_ hn_))⟩)) (below_size (by repeat (first | (with_reducible first | exact HB.out | apply below_alloc | apply pw_below_drewN | apply below_drew1 | refine below_set ?_ GE241.out) | exact HB.out)))));(have n8_ := Aside0.mk (blk_below (g := gb241) (o := .cells #[.int .i64 t235, .int .i64 t236, .int .i64 t237, .slice Ao17 t238.length co17] 26 (0, 0)) (by (with_reducible repeat first | refine blk_drewN ?_ _ | refine blk_drew ?_ | refine blk_alloc ?_ _); exact BK241.out) hb));(have n9_ := Aside0.mk (below_step (by repeat (first | (with_reducible first | exact HB.out | apply below_alloc | apply pw_below_drewN | apply below_drew1 | refine below_set ?_ GE241.out) | exact HB.out)) hb));(clear HO_12);(clear HO_242003);(clear HO268);(clear HO271);(clear HO275);(clear HO284);(clear HO279);(clear BK241);(clear HB);(have HO_12 := n0_);(have HO_242003 := n1_);(have HO268 := n2_);(have HO271 := n3_);(have HO275 := n4_);(have HO284 := n5_);(have HO279 := n6_);(have HO287 := n7_);(have BK241 := n8_);(have HB := n9_);(clear n0_ n1_ n2_ n3_ n4_ n5_ n6_ n7_ n8_ n9_);((try clear hb));((try clear hb2));((try clear hk));((try clear hi));((try clear ho0));(obtain ⟨Ao61, co61, eo61⟩ := Kd.N_slice HO279.out);((first | subst eo61 | (injection eo61 with f1_ f2_ f3_; have f4_ := f1_.symm; have f5_ := f3_.symm; clear f1_ f2_ f3_; subst f4_; subst f5_)));(obtain ⟨Ao62, co62, eo62⟩ := Kd.N_slice HO287.out);((first | subst eo62 | (injection eo62 with f1_ f2_ f3_; have f4_ := f1_.symm; have f5_ := f3_.symm; clear f1_ f2_ f3_; subst f4_; subst f5_)));(refine hK.out _ _ trivial (fun hHeld => ?_));(clear hK K);(refine norm_ (a' := ?_) ?_ ?_)
          rotate_left
          ·show Act.put _ (some 95) _ = _
           simp only [Act.put, List.setIfInBounds_toArray, List.set_cons_zero, List.set_cons_succ, i64_w, i32_w]
           rfl
          (refine one_ (i := 12) (N := some 96) #[true, true, true, true, true, true, true, true, true, true, true, true, true, false, false] rfl rfl (one_of HT_.out (by kernel_rfl)) (by decide) (fun K hK => ?_));(refine goes_ Try.func17 (by kernel_rfl) rfl #[.slice Ao61 t277.length co61, .slice Ao62 t285.length co62] (by rfl) rfl rfl (by (try simp only [List.map_toArray, List.map_cons, List.map_nil]); first | done | rfl | (simp only [List.length_drop, List.length_take]; rfl)) ?_)
          with_reducible refine (racewayref15_Same.calls kj11 _ _ t277 _ _ t285 t288 _ ?side1 ?side2 ?side3 ?side4 A49.out).mono ?_
          (case side1 => repeat (first | exact (Kd.N_reads' HO279.out).2.2 | (with_reducible refine Kd.C_alloc ?_ _) | (with_reducible refine Kd.C_drewN ?_ _) | (with_reducible refine Kd.C_drew ?_)))
          (case side2 => exact (Kd.N_reads' HO279.out).2.1)
          (case side3 => repeat (first | exact (Kd.N_reads' HO287.out).2.2 | (with_reducible refine Kd.C_alloc ?_ _) | (with_reducible refine Kd.C_drewN ?_ _) | (with_reducible refine Kd.C_drew ?_)))
          (case side4 => exact (Kd.N_reads' HO287.out).2.1)
          (rintro e w' ⟨rfl, ⟨nd, rfl⟩⟩);(refine ⟨_, rfl, ?_⟩);(refine hK.out _ _ trivial (fun hHeld => ?_));(clear hK K);(refine norm_ (a' := ?_) ?_ ?_)
          rotate_left
          ·show Act.put _ (some 96) _ = _
           simp only [Act.put, List.setIfInBounds_toArray, List.set_cons_zero, List.set_cons_succ, i64_w, i32_w]
           rfl
          refine pure_ (i := 13) (N := some 97) (v := ?_) (a' := ?_) #[true, true, true, true, true, true, true, true, true, true, true, true, true, true, false] rfl rfl (any_of HT_.out (by kernel_rfl)) (fun _ _ _ h => h) (Or.inl ⟨by rfl, ?_⟩) ?_ ?_
          rotate_left
          ·intro w'
           go_simp
           with_reducible rfl
          rotate_left
          ·simp only [Act.put, List.setIfInBounds_toArray, List.set_cons_zero, List.set_cons_succ, i64_w, i32_w]
           rfl
          refine pure_ (i := 14) (N := some 8) (v := ?_) (a' := ?_) #[true, true, true, true, true, true, true, true, true, true, true, true, true, true, true] rfl rfl (any_of HT_.out (by kernel_rfl)) (fun _ _ _ h => h) (Or.inl ⟨by rfl, ?_⟩) ?_ ?_
          rotate_left
          ·intro w'
           go_simp
           with_reducible rfl
          rotate_left
          ·simp only [Act.put, List.setIfInBounds_toArray, List.set_cons_zero, List.set_cons_succ, i64_w, i32_w]
           rfl
          refine done_ (done_of HT_.out (by kernel_rfl)) ?_
          try go_wp2
          go_ret
          exact ⟨by first | rfl | (simp [errW_none, errW_some] <;> rfl) | (simp [*, errW_none, errW_some] <;> rfl), by repeat (first | (with_reducible first | exact HB.out | apply below_alloc | apply pw_below_drewN | apply below_drew1 | refine below_set ?_ GE241.out) | exact HB.out)⟩
        ·(rw [if_neg c45] at H);(have c45b0 : (t276 == 0) = false := beq_eq_false_iff_ne.mpr c45);(have c45b1 : (t276 != 0) = true := bne_iff_ne.mpr c45);(exact absurd ((Option.some.inj H).trans hrT_.out) (by simp))
       ·(rw [if_neg c44] at H);(have c44b0 : (t272 == 0) = false := beq_eq_false_iff_ne.mpr c44);(have c44b1 : (t272 != 0) = true := bne_iff_ne.mpr c44);(exact absurd ((Option.some.inj H).trans hrT_.out) (by simp))
      ·(rw [if_neg c41] at H);(exact absurd H (by simp))
 ·replace c6 := Bool.eq_false_iff.mpr c6
  subst c6
  have H1 : (some false) = some r := by rw [if_neg (show ¬ (false = true) by decide)] at H; exact H
  clear H
  have H := H1
  clear H1
  exact absurd ((Option.some.inj H).trans hrT_.out) (by simp)
/-- THE ONE PURE STATEMENT of racewaylaw15_DecompTwice. -/
def racewaylaw15_DecompTwice.Pure : Prop := ∀ (a0 : Int) (a1 : Int) (l2 : List (S61)) (l3 : List Int), (Lit.int .i64 a0).wf = true → (Lit.int .i64 a1).wf = true → l2.length ≤ maxLen → (∀ x ∈ l2, (Lit.int .i64 x.f0).wf = true ∧ (Lit.int .i64 x.f1).wf = true ∧ (Lit.int .i64 x.f2).wf = true) → l3.length ≤ maxLen → l3.length * 8 ≤ 140737488351232 → (∀ x ∈ l3, (Lit.int .i64 x).wf = true) → ∃ k, racewaylaw15_DecompTwice.f k a0 a1 l2 l3 = some true
theorem racewaylaw15_DecompTwice.walk (P : racewaylaw15_DecompTwice.Pure) (a0 : Int) (a1 : Int) (A2 : Option Addr) (c2 : Nat) (l2 : List (S61)) (A3 : Option Addr) (c3 : Nat) (l3 : List Int) (w : World) (w0 : (Lit.int .i64 a0).wf = true) (w1 : (Lit.int .i64 a1).wf = true) (hr2 : Kd.C k61 w A2 l2.length l2) (hc2 : l2.length ≤ c2) (hm2 : l2.length ≤ maxLen) (hw2 : (∀ x ∈ l2, (Lit.int .i64 x.f0).wf = true ∧ (Lit.int .i64 x.f1).wf = true ∧ (Lit.int .i64 x.f2).wf = true)) (hr3 : Kd.C (Kd.int .i64) w A3 l3.length l3) (hc3 : l3.length ≤ c3) (hm3 : l3.length ≤ maxLen) (y3 : l3.length * 8 ≤ 140737488351232) (hw3 : (∀ x ∈ l3, (Lit.int .i64 x).wf = true)) :
  Calls Try.prog 6 #[.int .i64 a0, .int .i64 a1, .slice A2 l2.length c2, .slice A3 l3.length c3] w fun e w' => e = .returned (.bool true) ∧ Below w.heap.size w w' := by
 obtain ⟨k, h⟩ := P a0 a1 l2 l3 w0 w1 hm2 hw2 hm3 y3 hw3
 refine (racewaylaw15_DecompTwice.calls k a0 a1 _ _ l2 _ _ l3 true w hr2 hc2 hr3 hc3 h ⟨rfl⟩).mono ?_
 rintro e w' ⟨rfl, hd⟩
 exact ⟨rfl, hd⟩
end Go.Proofs.Ytnjdjnoncoeffaa.PDecompTwice
