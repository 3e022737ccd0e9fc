/- For the claim that the law NetDegrees of the given program holds for every input: a text written by a program (wip/myprint over the kit's print), with contracts by hand where it says MANUAL. -/
import Derived.Test.YtjbeofcgnnlllaaPNetDegreesx0
import Derived.Test.YtjbeofcgnnlllaaPNetDegreesx7
import Derived.Test.YtjbeofcgnnlllaaPNetDegreesx8
import Derived.Test.YtjbeofcgnnlllaaPNetDegreesx9
import Derived.Test.YtjbeofcgnnlllaaPNetDegreesx11
import Derived.Test.YtjbeofcgnnlllaaPNetDegreesx15
import Derived.Test.YtjbeofcgnnlllaaPNetDegreesx16
import Derived.Test.YtjbeofcgnnlllaaPNetDegreesx17
namespace Go.Proofs.Ytjbeofcgnnlllaa.PNetDegrees
open Go.RowKit Go.Proofs.YtjbeofcgnnlllaaW.PrintWords Go.Proofs.YtjbeofcgnnlllaaW.PrintLast Go.Proofs.YtjbeofcgnnlllaaW.PrintMore
attribute [local go_sem] max2_int min2_int max_two min_two max_three min_three max_four min_four   -- for this text's walks alone
set_option linter.unusedVariables false
set_option linter.unusedSimpArgs false

/-! ### racewaylaw3_NetDegrees: function 7 -/
mutual
def racewaylaw3_NetDegrees.l0 : Nat → Int → Int → Int → Int → List (S28) → Int → Int → Int → List (S28) → Int → Int → Int → Option (Bool)
  | 0, _, _, _, _, _, _, _, _, _, _, _, _ => none
  | k + 1, x13, x151000, x151001, x151002, x151003, x158000, x158001, x158002, x158003, x161000, x161001, x161002 => if x13 ≤ x151000 then ((net_Out.f x158000 x158001 x158002 x158003 x13).bind fun t164 => ((net_In.f x158000 x158001 x158002 x158003 x13).bind fun t167 => ((net_Out.f x151000 x151001 x151002 x151003 x13).bind fun t170 => ((net_In.f x151000 x151001 x151002 x151003 x13).bind fun t173 => (if x13 = x161000 then (if t170.length < 17592186044416 then (racewaylaw3_NetDegrees.j1 k x13 t164 t167 (t170 ++ [(x151003.length : Int)]) t173 x151000 x151001 x151002 x151003 x158000 x158001 x158002 x158003 x161000 x161001 x161002) else (none)) else (racewaylaw3_NetDegrees.j1 k x13 t164 t167 t170 t173 x151000 x151001 x151002 x151003 x158000 x158001 x158002 x158003 x161000 x161001 x161002)))))) else (some true)
def racewaylaw3_NetDegrees.j1 : Nat → Int → List Int → List Int → List Int → List Int → Int → Int → Int → List (S28) → Int → Int → Int → List (S28) → Int → Int → Int → Option (Bool)
  | 0, _, _, _, _, _, _, _, _, _, _, _, _, _, _, _, _ => none
  | k + 1, x13, x14, x15, x16, x17, x151000, x151001, x151002, x151003, x158000, x158001, x158002, x158003, x161000, x161001, x161002 => if x13 = x161001 then (if x17.length < 17592186044416 then (racewaylaw3_NetDegrees.j2 k x13 x14 x15 x16 (x17 ++ [(x151003.length : Int)]) x151000 x151001 x151002 x151003 x158000 x158001 x158002 x158003 x161000 x161001 x161002) else (none)) else (racewaylaw3_NetDegrees.j2 k x13 x14 x15 x16 x17 x151000 x151001 x151002 x151003 x158000 x158001 x158002 x158003 x161000 x161001 x161002)
def racewaylaw3_NetDegrees.j2 : Nat → Int → List Int → List Int → List Int → List Int → Int → Int → Int → List (S28) → Int → Int → Int → List (S28) → Int → Int → Int → Option (Bool)
  | 0, _, _, _, _, _, _, _, _, _, _, _, _, _, _, _, _ => none
  | k + 1, x13, x14, x15, x16, x17, x151000, x151001, x151002, x151003, x158000, x158001, x158002, x158003, x161000, x161001, x161002 => (racewaylaw3_same.f k x14 x16).bind fun t182 => (if t182 = true then ((racewaylaw3_same.f k x15 x17).bind fun t183 => (if t183 = true then (racewaylaw3_NetDegrees.l0 k (wrap64 (x13 + 1)) x151000 x151001 x151002 x151003 x158000 x158001 x158002 x158003 x161000 x161001 x161002) else (some false))) else (some false))
end
def racewaylaw3_NetDegrees.f (k : Nat) (a0 : Int) (a1 : Int) (l2 : List (S41)) (a3_0 : Int) (a3_1 : Int) (a3_2 : Int) : Option (Bool) := (racewaylaw3_shown.f).bind fun t143 => (if t143 = true then ((racewaylaw3_made.f k a0 a1 l2).bind fun bt144 => ((net_Copy.f bt144.1 bt144.2.1 bt144.2.2.1 bt144.2.2.2).bind fun bt151 => ((racewaylaw3_pick.f a3_0 bt144.1).bind fun t158 => ((racewaylaw3_pick.f a3_1 bt144.1).bind fun t159 => (if bt151.2.2.2.length < 5864062014805 then (racewaylaw3_NetDegrees.l0 k 1 bt144.1 bt144.2.1 bt144.2.2.1 bt144.2.2.2 bt151.1 bt151.2.1 bt151.2.2.1 (bt151.2.2.2 ++ [(⟨wrap64 (1 + t158), wrap64 (1 + t159), 1⟩ : S28)]) (wrap64 (1 + t158)) (wrap64 (1 + t159)) 1) else (none)))))) else (some false))
theorem racewaylaw3_NetDegrees.mono_l : ∀ k, (∀ y0 y1 y2 y3 y4 y5 y6 y7 y8 y9 y10 y11, LeO (racewaylaw3_NetDegrees.l0 k y0 y1 y2 y3 y4 y5 y6 y7 y8 y9 y10 y11) (racewaylaw3_NetDegrees.l0 (k + 1) y0 y1 y2 y3 y4 y5 y6 y7 y8 y9 y10 y11)) ∧ (∀ y0 y1 y2 y3 y4 y5 y6 y7 y8 y9 y10 y11 y12 y13 y14 y15, LeO (racewaylaw3_NetDegrees.j1 k y0 y1 y2 y3 y4 y5 y6 y7 y8 y9 y10 y11 y12 y13 y14 y15) (racewaylaw3_NetDegrees.j1 (k + 1) y0 y1 y2 y3 y4 y5 y6 y7 y8 y9 y10 y11 y12 y13 y14 y15)) ∧ (∀ y0 y1 y2 y3 y4 y5 y6 y7 y8 y9 y10 y11 y12 y13 y14 y15, LeO (racewaylaw3_NetDegrees.j2 k y0 y1 y2 y3 y4 y5 y6 y7 y8 y9 y10 y11 y12 y13 y14 y15) (racewaylaw3_NetDegrees.j2 (k + 1) y0 y1 y2 y3 y4 y5 y6 y7 y8 y9 y10 y11 y12 y13 y14 y15))
  | 0 => ⟨fun _ _ _ _ _ _ _ _ _ _ _ _ r h => by simp [racewaylaw3_NetDegrees.l0] at h, fun _ _ _ _ _ _ _ _ _ _ _ _ _ _ _ _ r h => by simp [racewaylaw3_NetDegrees.j1] at h, fun _ _ _ _ _ _ _ _ _ _ _ _ _ _ _ _ r h => by simp [racewaylaw3_NetDegrees.j2] at h⟩
  | k + 1 => by
    obtain ⟨ih0, ih1, ih2⟩ := racewaylaw3_NetDegrees.mono_l k
    refine ⟨?_, ?_, ?_⟩
    · intro y0 y1 y2 y3 y4 y5 y6 y7 y8 y9 y10 y11
      unfold racewaylaw3_NetDegrees.l0
      repeat' first
      | (with_reducible exact ih0 _ _ _ _ _ _ _ _ _ _ _ _)
      | (with_reducible exact ih1 _ _ _ _ _ _ _ _ _ _ _ _ _ _ _ _)
      | (with_reducible exact ih2 _ _ _ _ _ _ _ _ _ _ _ _ _ _ _ _)
      | (with_reducible exact racewaylaw3_made.mono _ _ _ _)
      | (with_reducible exact racewaylaw3_same.mono _ _ _)
      | (with_reducible exact LeO.refl _)
      | (with_reducible exact LeO.none _)
      | (with_reducible refine LeO.ite ?_ ?_)
      | (with_reducible refine LeO.bind ?_ (fun _ => ?_))
      | exact ih0 _ _ _ _ _ _ _ _ _ _ _ _
      | exact ih1 _ _ _ _ _ _ _ _ _ _ _ _ _ _ _ _
      | exact ih2 _ _ _ _ _ _ _ _ _ _ _ _ _ _ _ _
      | exact racewaylaw3_made.mono _ _ _ _
      | exact racewaylaw3_same.mono _ _ _
      | exact LeO.none _
      | refine LeO.ite ?_ ?_
      | refine LeO.bind ?_ (fun _ => ?_)
    · intro y0 y1 y2 y3 y4 y5 y6 y7 y8 y9 y10 y11 y12 y13 y14 y15
      unfold racewaylaw3_NetDegrees.j1
      repeat' first
      | (with_reducible exact ih0 _ _ _ _ _ _ _ _ _ _ _ _)
      | (with_reducible exact ih1 _ _ _ _ _ _ _ _ _ _ _ _ _ _ _ _)
      | (with_reducible exact ih2 _ _ _ _ _ _ _ _ _ _ _ _ _ _ _ _)
      | (with_reducible exact racewaylaw3_made.mono _ _ _ _)
      | (with_reducible exact racewaylaw3_same.mono _ _ _)
      | (with_reducible exact LeO.refl _)
      | (with_reducible exact LeO.none _)
      | (with_reducible refine LeO.ite ?_ ?_)
      | (with_reducible refine LeO.bind ?_ (fun _ => ?_))
      | exact ih0 _ _ _ _ _ _ _ _ _ _ _ _
      | exact ih1 _ _ _ _ _ _ _ _ _ _ _ _ _ _ _ _
      | exact ih2 _ _ _ _ _ _ _ _ _ _ _ _ _ _ _ _
      | exact racewaylaw3_made.mono _ _ _ _
      | exact racewaylaw3_same.mono _ _ _
      | exact LeO.none _
      | refine LeO.ite ?_ ?_
      | refine LeO.bind ?_ (fun _ => ?_)
    · intro y0 y1 y2 y3 y4 y5 y6 y7 y8 y9 y10 y11 y12 y13 y14 y15
      unfold racewaylaw3_NetDegrees.j2
      repeat' first
      | (with_reducible exact ih0 _ _ _ _ _ _ _ _ _ _ _ _)
      | (with_reducible exact ih1 _ _ _ _ _ _ _ _ _ _ _ _ _ _ _ _)
      | (with_reducible exact ih2 _ _ _ _ _ _ _ _ _ _ _ _ _ _ _ _)
      | (with_reducible exact racewaylaw3_made.mono _ _ _ _)
      | (with_reducible exact racewaylaw3_same.mono _ _ _)
      | (with_reducible exact LeO.refl _)
      | (with_reducible exact LeO.none _)
      | (with_reducible refine LeO.ite ?_ ?_)
      | (with_reducible refine LeO.bind ?_ (fun _ => ?_))
      | exact ih0 _ _ _ _ _ _ _ _ _ _ _ _
      | exact ih1 _ _ _ _ _ _ _ _ _ _ _ _ _ _ _ _
      | exact ih2 _ _ _ _ _ _ _ _ _ _ _ _ _ _ _ _
      | exact racewaylaw3_made.mono _ _ _ _
      | exact racewaylaw3_same.mono _ _ _
      | exact LeO.none _
      | refine LeO.ite ?_ ?_
      | refine LeO.bind ?_ (fun _ => ?_)
theorem racewaylaw3_NetDegrees.mono : ∀ a0 a1 a2 a3 a4 a5 k, LeO (racewaylaw3_NetDegrees.f k a0 a1 a2 a3 a4 a5) (racewaylaw3_NetDegrees.f (k + 1) a0 a1 a2 a3 a4 a5) := by
  intro a0 a1 a2 a3 a4 a5 k
  obtain ⟨ih0, ih1, ih2⟩ := racewaylaw3_NetDegrees.mono_l k
  unfold racewaylaw3_NetDegrees.f
  repeat' first
      | (with_reducible exact ih0 _ _ _ _ _ _ _ _ _ _ _ _)
      | (with_reducible exact ih1 _ _ _ _ _ _ _ _ _ _ _ _ _ _ _ _)
      | (with_reducible exact ih2 _ _ _ _ _ _ _ _ _ _ _ _ _ _ _ _)
      | (with_reducible exact racewaylaw3_made.mono _ _ _ _)
      | (with_reducible exact racewaylaw3_same.mono _ _ _)
      | (with_reducible exact LeO.refl _)
      | (with_reducible exact LeO.none _)
      | (with_reducible refine LeO.ite ?_ ?_)
      | (with_reducible refine LeO.bind ?_ (fun _ => ?_))
      | exact ih0 _ _ _ _ _ _ _ _ _ _ _ _
      | exact ih1 _ _ _ _ _ _ _ _ _ _ _ _ _ _ _ _
      | exact ih2 _ _ _ _ _ _ _ _ _ _ _ _ _ _ _ _
      | exact racewaylaw3_made.mono _ _ _ _
      | exact racewaylaw3_same.mono _ _ _
      | exact LeO.none _
      | refine LeO.ite ?_ ?_
      | refine LeO.bind ?_ (fun _ => ?_)
def racewaylaw3_NetDegrees.T6 : Bool × List (List Nat × List Nat) := (true, [([], []), ([0], [0]), ([], []), ([2], [2]), ([1, 3], [1, 3]), ([4], [4]), ([], []), ([6], [6]), ([], []), ([8], [8]), ([7, 9, 4], [7, 9]), ([10], [10]), ([5, 11], [5, 11]), ([], []), ([13, 12, 10, 0, 1, 2, 3, 4, 5, 6, 7, 8, 9, 10, 11, 12, 13], [12, 13])])
def racewaylaw3_NetDegrees.B6 : List Nat := [0, 1, 0, 4, 15, 31, 0, 64, 0, 256, 991, 2015, 4095, 0, 16383]
theorem racewaylaw3_NetDegrees.tab6 : rtab .any (opsOf Try.f7 6) = racewaylaw3_NetDegrees.T6 := by kernel_rfl
theorem racewaylaw3_NetDegrees.bits6 : waitsOk racewaylaw3_NetDegrees.T6.2 racewaylaw3_NetDegrees.B6 = true := by kernel_rfl
set_option maxHeartbeats 8000000 in
set_option maxRecDepth 100000 in
theorem racewaylaw3_NetDegrees.calls (k : Nat) (a0 : Int) (a1 : Int) (A2 : Option Addr) (c2 : Nat) (l2 : List (S41)) (a3_0 : Int) (a3_1 : Int) (a3_2 : Int) (r : Bool) (w : World) (hr2 : Kd.C k41 w A2 l2.length l2) (hc2 : l2.length ≤ c2) (h : racewaylaw3_NetDegrees.f k a0 a1 l2 a3_0 a3_1 a3_2 = some r) (hrT_ : Aside0 (r = true)) :
    Calls Try.prog 7 #[.int .i64 a0, .int .i64 a1, .slice A2 l2.length c2, .agg #[.int .i64 a3_0, .int .i64 a3_1, .int .i64 a3_2]] w fun e w' => e = .returned (.bool r) ∧ Below w.heap.size w w' := by
  have hu41 := Try.underlying41
  have hu26 := Try.underlying26
  have hu28 := Try.underlying28
  have HR2 := Aside0.mk hr2
  have HC2 := Aside0.mk hc2
  clear hr2 hc2
  have HB := Aside0.mk (Below.refl w.heap.size w)
  have H : ((racewaylaw3_shown.f).bind fun t143 => (if t143 = true then ((racewaylaw3_made.f k a0 a1 l2).bind fun bt144 => ((net_Copy.f bt144.1 bt144.2.1 bt144.2.2.1 bt144.2.2.2).bind fun bt151 => ((racewaylaw3_pick.f a3_0 bt144.1).bind fun t158 => ((racewaylaw3_pick.f a3_1 bt144.1).bind fun t159 => (if bt151.2.2.2.length < 5864062014805 then (racewaylaw3_NetDegrees.l0 k 1 bt144.1 bt144.2.1 bt144.2.2.1 bt144.2.2.2 bt151.1 bt151.2.1 bt151.2.2.1 (bt151.2.2.2 ++ [(⟨wrap64 (1 + t158), wrap64 (1 + t159), 1⟩ : S28)]) (wrap64 (1 + t158)) (wrap64 (1 + t159)) 1) else (none)))))) else (some false))) = some r := h
  clear h
  replace H := Option.bind_eq_some_iff.mp H
  obtain ⟨t143, A50, H⟩ := H
  replace H : (if t143 = true then ((racewaylaw3_made.f k a0 a1 l2).bind fun bt144 => ((net_Copy.f bt144.1 bt144.2.1 bt144.2.2.1 bt144.2.2.2).bind fun bt151 => ((racewaylaw3_pick.f a3_0 bt144.1).bind fun t158 => ((racewaylaw3_pick.f a3_1 bt144.1).bind fun t159 => (if bt151.2.2.2.length < 5864062014805 then (racewaylaw3_NetDegrees.l0 k 1 bt144.1 bt144.2.1 bt144.2.2.1 bt144.2.2.2 bt151.1 bt151.2.1 bt151.2.2.1 (bt151.2.2.2 ++ [(⟨wrap64 (1 + t158), wrap64 (1 + t159), 1⟩ : S28)]) (wrap64 (1 + t158)) (wrap64 (1 + t159)) 1) else (none)))))) else (some false)) = some r := H
  have A5 := Aside0.mk A50
  clear A50
  by_cases c6 : t143 = true
  · subst c6
    have H1 : ((racewaylaw3_made.f k a0 a1 l2).bind fun bt144 => ((net_Copy.f bt144.1 bt144.2.1 bt144.2.2.1 bt144.2.2.2).bind fun bt151 => ((racewaylaw3_pick.f a3_0 bt144.1).bind fun t158 => ((racewaylaw3_pick.f a3_1 bt144.1).bind fun t159 => (if bt151.2.2.2.length < 5864062014805 then (racewaylaw3_NetDegrees.l0 k 1 bt144.1 bt144.2.1 bt144.2.2.1 bt144.2.2.2 bt151.1 bt151.2.1 bt151.2.2.1 (bt151.2.2.2 ++ [(⟨wrap64 (1 + t158), wrap64 (1 + t159), 1⟩ : S28)]) (wrap64 (1 + t158)) (wrap64 (1 + t159)) 1) else (none)))))) = some r := by rw [if_pos rfl] at H; exact H
    clear H
    have H := H1
    clear H1
    replace H := Option.bind_eq_some_iff.mp H
    obtain ⟨⟨t144, t145, t146, t147⟩, A70, H⟩ := H
    replace H : ((net_Copy.f t144 t145 t146 t147).bind fun bt151 => ((racewaylaw3_pick.f a3_0 t144).bind fun t158 => ((racewaylaw3_pick.f a3_1 t144).bind fun t159 => (if bt151.2.2.2.length < 5864062014805 then (racewaylaw3_NetDegrees.l0 k 1 t144 t145 t146 t147 bt151.1 bt151.2.1 bt151.2.2.1 (bt151.2.2.2 ++ [(⟨wrap64 (1 + t158), wrap64 (1 + t159), 1⟩ : S28)]) (wrap64 (1 + t158)) (wrap64 (1 + t159)) 1) else (none))))) = some r := H
    have A7 := Aside0.mk A70
    clear A70
    replace H := Option.bind_eq_some_iff.mp H
    obtain ⟨⟨t151, t152, t153, t154⟩, A80, H⟩ := H
    replace H : ((racewaylaw3_pick.f a3_0 t144).bind fun t158 => ((racewaylaw3_pick.f a3_1 t144).bind fun t159 => (if t154.length < 5864062014805 then (racewaylaw3_NetDegrees.l0 k 1 t144 t145 t146 t147 t151 t152 t153 (t154 ++ [(⟨wrap64 (1 + t158), wrap64 (1 + t159), 1⟩ : S28)]) (wrap64 (1 + t158)) (wrap64 (1 + t159)) 1) else (none)))) = some r := H
    have A8 := Aside0.mk A80
    clear A80
    replace H := Option.bind_eq_some_iff.mp H
    obtain ⟨t158, A90, H⟩ := H
    replace H : ((racewaylaw3_pick.f a3_1 t144).bind fun t159 => (if t154.length < 5864062014805 then (racewaylaw3_NetDegrees.l0 k 1 t144 t145 t146 t147 t151 t152 t153 (t154 ++ [(⟨wrap64 (1 + t158), wrap64 (1 + t159), 1⟩ : S28)]) (wrap64 (1 + t158)) (wrap64 (1 + t159)) 1) else (none))) = some r := H
    have A9 := Aside0.mk A90
    clear A90
    replace H := Option.bind_eq_some_iff.mp H
    obtain ⟨t159, A100, H⟩ := H
    replace H : (if t154.length < 5864062014805 then (racewaylaw3_NetDegrees.l0 k 1 t144 t145 t146 t147 t151 t152 t153 (t154 ++ [(⟨wrap64 (1 + t158), wrap64 (1 + t159), 1⟩ : S28)]) (wrap64 (1 + t158)) (wrap64 (1 + t159)) 1) else (none)) = some r := H
    have A10 := Aside0.mk A100
    clear A100
    by_cases c11 : t154.length < 5864062014805
    · rw [if_pos c11] at H
      have LMc11 := Aside0.mk c11
      clear c11
      obtain ⟨y161, hy161⟩ : ∃ y_ : List (S28), y_ = (t154 ++ [(⟨wrap64 (1 + t158), wrap64 (1 + t159), 1⟩ : S28)]) := ⟨_, rfl⟩
      replace H : (racewaylaw3_NetDegrees.l0 k 1 t144 t145 t146 t147 t151 t152 t153 y161 (wrap64 (1 + t158)) (wrap64 (1 + t159)) 1) = some r := by first | (rw [hy161]; with_reducible exact H) | (have H2_ := (Option.bind_some _ _).symm.trans H; rw [hy161]; with_reducible exact H2_) | (have H2_ := (Option.bind_some _ _).symm.trans H; with_reducible exact H2_) | with_reducible exact H | (rw [hy161]; exact H) | exact H
      have Ny161 := Aside0.mk hy161
      clear hy161
      have H' := Aside0.mk H
      clear H
      go_enter Try.func7, Try.ntmps7
      try go_wp2_with (first | ((with_reducible refine gate_dst (N := 7) rfl ?_); refine box_event ?hg (N := 7) ?hd (cs := #[.int .i64 a3_0, .int .i64 a3_1, .int .i64 a3_2]) (t := 41) ?hr ?_; (case hd => rfl); (case hg => rfl); (case hr => first | (go_simp; done) | (go_simp; rfl)); intro gb142 hg w12 hbox hb; have n0_ := Aside0.mk (below_step (by repeat (first | (with_reducible first | exact HB.out | apply below_alloc | apply pw_below_drewN | apply below_drew1) | exact HB.out)) hb); have n1_ := Aside0.mk (hbox); have n2_ := Aside0.mk ((by rw [hg]; exact (below_size (by repeat (first | (with_reducible first | exact HB.out | apply below_alloc | apply pw_below_drewN | apply below_drew1) | exact HB.out))) : w.heap.size ≤ gb142)); have n3_ := Aside0.mk ((by rw [hg]; exact (below_size (by repeat (first | (with_reducible first | exact HB.out | apply below_alloc | apply pw_below_drewN | apply below_drew1) | exact HB.out))) : w.heap.size ≤ gb142)); clear HB; have HB := n0_; have BK142 := n1_; have GW142 := n2_; have GE142 := n3_; clear n0_ n1_ n2_ n3_; clear hb hbox hg) | ((with_reducible refine gate_callee (f := 14) rfl ?_); refine goesL_ (some 18) rfl rfl Try.func14 (by kernel_rfl) rfl #[] rfl (by (try simp only [List.map_toArray, List.map_cons, List.map_nil]); first | done | rfl | (simp only [List.length_drop, List.length_take]; rfl)) ?_; (with_reducible refine (racewaylaw3_shown.calls  true _ A5.out).mono ?_); rintro e w13 ⟨rfl, hb⟩; refine ⟨_, rfl, ?_⟩; have n0_ := Aside0.mk (blk_below (g := gb142) (o := .cells #[.int .i64 a3_0, .int .i64 a3_1, .int .i64 a3_2] 41 (0, 0)) (by (with_reducible repeat (first | refine blk_drewN ?_ _ | refine blk_drew ?_ | refine blk_alloc ?_ _)); exact BK142.out) hb); have n1_ := Aside0.mk (below_step (by repeat (first | (with_reducible first | exact HB.out | apply below_alloc | apply pw_below_drewN | apply below_drew1 | refine below_set ?_ GE142.out) | exact HB.out)) hb); clear BK142; clear HB; have BK142 := n0_; have HB := n1_; clear n0_ n1_; (try clear hb); (try clear hb2); (try clear hk); (try clear hi)) | ((with_reducible refine gate_callee (f := 17) rfl ?_); refine goesL_ (some 24) rfl rfl Try.func17 (by kernel_rfl) rfl #[.int .i64 a0, .int .i64 a1, .slice A2 l2.length c2] rfl (by (try simp only [List.map_toArray, List.map_cons, List.map_nil]); first | done | rfl | (simp only [List.length_drop, List.length_take]; rfl)) ?_; (with_reducible refine (racewaylaw3_made.calls k a0 a1 _ _ l2 t144 t145 t146 t147 _ ?side1 ?side2 A7.out).mono ?_); (case side1 => repeat (first | exact (Kd.C_below HR2.out HB.out) | (with_reducible refine Kd.C_alloc ?_ _) | (with_reducible refine Kd.C_drewN ?_ _) | (with_reducible refine Kd.C_drew ?_))); (case side2 => exact HC2.out); rintro e w14 ⟨v148, rfl, ho0, hb⟩; refine ⟨_, rfl, ?_⟩; have n0_ := Aside0.mk (Kd.R_lower ho0 (below_size (by repeat (first | (with_reducible first | exact HB.out | apply below_alloc | apply pw_below_drewN | apply below_drew1 | refine below_set ?_ GE142.out) | exact HB.out)))); have n1_ := Aside0.mk (blk_below (g := gb142) (o := .cells #[.int .i64 a3_0, .int .i64 a3_1, .int .i64 a3_2] 41 (0, 0)) (by (with_reducible repeat (first | refine blk_drewN ?_ _ | refine blk_drew ?_ | refine blk_alloc ?_ _)); exact BK142.out) hb); have n2_ := Aside0.mk (below_step (by repeat (first | (with_reducible first | exact HB.out | apply below_alloc | apply pw_below_drewN | apply below_drew1 | refine below_set ?_ GE142.out) | exact HB.out)) hb); clear BK142; clear HB; have HO149 := n0_; have BK142 := n1_; have HB := n2_; clear n0_ n1_ n2_; (try clear hb); (try clear hb2); (try clear hk); (try clear hi); (try clear ho0)) | ((with_reducible refine gate_dst (N := 10) rfl ?_); refine box_event ?hg (N := 10) ?hd (cs := #[.int .i64 0, .int .i64 0, .int .i64 0, .slice none 0 0]) (t := 26) ?hr ?_; (case hd => rfl); (case hg => rfl); (case hr => first | (go_simp; done) | (go_simp; rfl)); intro gb150 hg w15 hbox hb; have n0_ := Aside0.mk (Kd.R_below (by (with_reducible repeat (first | apply Kd.R_alloc | apply Kd.R_drewN | apply Kd.R_drew)); exact HO149.out) hb); have n1_ := Aside0.mk (blk_below (g := gb142) (o := .cells #[.int .i64 a3_0, .int .i64 a3_1, .int .i64 a3_2] 41 (0, 0)) (by (with_reducible repeat (first | refine blk_drewN ?_ _ | refine blk_drew ?_ | refine blk_alloc ?_ _)); exact BK142.out) hb); have n2_ := Aside0.mk (below_step (by repeat (first | (with_reducible first | exact HB.out | apply below_alloc | apply pw_below_drewN | apply below_drew1 | refine below_set ?_ GE142.out) | exact HB.out)) hb); have n3_ := Aside0.mk (hbox); have n4_ := Aside0.mk ((by rw [hg]; exact (below_size (by repeat (first | (with_reducible first | exact HB.out | apply below_alloc | apply pw_below_drewN | apply below_drew1 | refine below_set ?_ GE142.out) | exact HB.out))) : w.heap.size ≤ gb150)); have n5_ := Aside0.mk ((by rw [hg]; exact (below_size (by repeat (first | (with_reducible first | exact HB.out | apply below_alloc | apply pw_below_drewN | apply below_drew1 | refine below_set ?_ GE142.out) | exact HB.out))) : w.heap.size ≤ gb150)); have n6_ := Aside0.mk ((by rw [hg]; exact Nat.ne_of_lt (blk_lt (g := gb142) (o := .cells #[.int .i64 a3_0, .int .i64 a3_1, .int .i64 a3_2] 41 (0, 0)) (by (with_reducible repeat (first | refine blk_drewN ?_ _ | refine blk_drew ?_ | refine blk_alloc ?_ _)); exact BK142.out)) : gb142 ≠ gb150)); have n7_ := Aside0.mk ((by rw [hg]; exact Nat.ne_of_gt (blk_lt (g := gb142) (o := .cells #[.int .i64 a3_0, .int .i64 a3_1, .int .i64 a3_2] 41 (0, 0)) (by (with_reducible repeat (first | refine blk_drewN ?_ _ | refine blk_drew ?_ | refine blk_alloc ?_ _)); exact BK142.out)) : gb150 ≠ gb142)); clear HO149; clear BK142; clear HB; have HO149 := n0_; have BK142 := n1_; have HB := n2_; have BK150 := n3_; have GW150 := n4_; have GE150 := n5_; have NB142_150 := n6_; have NB150_142 := n7_; clear n0_ n1_ n2_ n3_ n4_ n5_ n6_ n7_; clear hb hbox hg; have hnb16 := NB150_142.out; have hnc16 := NB142_150.out; have hcz17_0 : w15.cell? ⟨gb150, 0, none⟩ = some (.int .i64 0) := (blk_cell BK150.out 0).trans rfl; have hcz17_1 : w15.cell? ⟨gb150, 1, none⟩ = some (.int .i64 0) := (blk_cell BK150.out 1).trans rfl; have hcz17_2 : w15.cell? ⟨gb150, 2, none⟩ = some (.int .i64 0) := (blk_cell BK150.out 2).trans rfl; have hcz17_3 : w15.cell? ⟨gb150, 3, none⟩ = some (.slice none 0 0) := (blk_cell BK150.out 3).trans rfl; have hfz17_0 := blk_frozen BK150.out 0; have hfz17_1 := blk_frozen BK150.out 1; have hfz17_2 := blk_frozen BK150.out 2; have hfz17_3 := blk_frozen BK150.out 3; obtain ⟨Ao18, co18, eo18⟩ := Kd.R_slice HO149.out; subst eo18) | ((with_reducible refine gate_callee (f := 18) rfl ?_); refine goesL_ (some 26) rfl rfl Try.func18 (by kernel_rfl) rfl #[.agg #[.int .i64 t144, .int .i64 t145, .int .i64 t146, .slice Ao18 t147.length co18]] rfl (by (try simp only [List.map_toArray, List.map_cons, List.map_nil]); first | done | rfl | (simp only [List.length_drop, List.length_take]; rfl)) ?_; (with_reducible refine (net_Copy.calls t144 t145 t146 _ _ t147 t151 t152 t153 t154 _ ?side1 ?side2 A8.out).mono ?_); (case side1 => refine (Kd.R_reads' (e := 28) (base := w.heap.size) (ok := fun k_ => True) (n := t147.length) (c := co18) ?_).2.2; exact (by (with_reducible repeat (first | apply Kd.R_alloc | apply Kd.R_drewN | apply Kd.R_drew)); exact (Kd.R_mono (Kd.R_far (p := ⟨gb150, 3, none⟩) (Kd.R_far (p := ⟨gb150, 2, none⟩) (Kd.R_far (p := ⟨gb150, 1, none⟩) (Kd.R_far (p := ⟨gb150, 0, none⟩) (Kd.R_types HO149.out BK150.out (by decide)) (fun _ hk => hk.2) (.int .i64 t144)) (fun _ hk => hk.2) (.int .i64 t145)) (fun _ hk => hk.2) (.int .i64 t146)) (fun _ hk => hk.2) (.slice Ao18 t147.length co18)) (fun _ h_ => h_.1)))); (case side2 => exact (Kd.R_reads' HO149.out).2.1); rintro e w19 ⟨v155, rfl, ho0, hb⟩; refine ⟨_, rfl, ?_⟩; have n0_ := Aside0.mk (Kd.R_elder' (by (with_reducible repeat (first | apply Kd.R_alloc | apply Kd.R_drewN | apply Kd.R_drew)); exact (Kd.R_mono (Kd.R_far (p := ⟨gb150, 3, none⟩) (Kd.R_far (p := ⟨gb150, 2, none⟩) (Kd.R_far (p := ⟨gb150, 1, none⟩) (Kd.R_far (p := ⟨gb150, 0, none⟩) (Kd.R_types HO149.out BK150.out (by decide)) (fun _ hk => hk.2) (.int .i64 t144)) (fun _ hk => hk.2) (.int .i64 t145)) (fun _ hk => hk.2) (.int .i64 t146)) (fun _ hk => hk.2) (.slice Ao18 t147.length co18)) (fun _ h_ => h_.1))) (Kd.R_base ho0) hb); have n1_ := Aside0.mk (Kd.R_lower (Kd.R_new' ho0 (Kd.R_lt (by (with_reducible repeat (first | apply Kd.R_alloc | apply Kd.R_drewN | apply Kd.R_drew)); exact (Kd.R_mono (Kd.R_far (p := ⟨gb150, 3, none⟩) (Kd.R_far (p := ⟨gb150, 2, none⟩) (Kd.R_far (p := ⟨gb150, 1, none⟩) (Kd.R_far (p := ⟨gb150, 0, none⟩) (Kd.R_types HO149.out BK150.out (by decide)) (fun _ hk => hk.2) (.int .i64 t144)) (fun _ hk => hk.2) (.int .i64 t145)) (fun _ hk => hk.2) (.int .i64 t146)) (fun _ hk => hk.2) (.slice Ao18 t147.length co18)) (fun _ h_ => h_.1))))) (below_size (by repeat (first | (with_reducible first | exact HB.out | apply below_alloc | apply pw_below_drewN | apply below_drew1 | refine below_set ?_ GE142.out | refine below_set ?_ GE150.out) | exact HB.out)))); have n2_ := Aside0.mk (blk_below (g := gb142) (o := .cells #[.int .i64 a3_0, .int .i64 a3_1, .int .i64 a3_2] 41 (0, 0)) (by (with_reducible repeat (first | refine blk_drewN ?_ _ | refine blk_drew ?_ | refine blk_alloc ?_ _)); refine blk_far ?_ NB142_150.out _; (with_reducible repeat (first | refine blk_drewN ?_ _ | refine blk_drew ?_ | refine blk_alloc ?_ _)); refine blk_far ?_ NB142_150.out _; (with_reducible repeat (first | refine blk_drewN ?_ _ | refine blk_drew ?_ | refine blk_alloc ?_ _)); refine blk_far ?_ NB142_150.out _; (with_reducible repeat (first | refine blk_drewN ?_ _ | refine blk_drew ?_ | refine blk_alloc ?_ _)); refine blk_far ?_ NB142_150.out _; (with_reducible repeat (first | refine blk_drewN ?_ _ | refine blk_drew ?_ | refine blk_alloc ?_ _)); exact BK142.out) hb); have n3_ := Aside0.mk (blk_below (g := gb150) (o := .cells #[.int .i64 t144, .int .i64 t145, .int .i64 t146, .slice Ao18 t147.length co18] 26 (0, 0)) (by (with_reducible repeat (first | refine blk_drewN ?_ _ | refine blk_drew ?_ | refine blk_alloc ?_ _)); refine blk_put (cs := #[.int .i64 t144, .int .i64 t145, .int .i64 t146, .slice none 0 0]) ?_ 3 _ rfl; (with_reducible repeat (first | refine blk_drewN ?_ _ | refine blk_drew ?_ | refine blk_alloc ?_ _)); refine blk_put (cs := #[.int .i64 t144, .int .i64 t145, .int .i64 0, .slice none 0 0]) ?_ 2 _ rfl; (with_reducible repeat (first | refine blk_drewN ?_ _ | refine blk_drew ?_ | refine blk_alloc ?_ _)); refine blk_put (cs := #[.int .i64 t144, .int .i64 0, .int .i64 0, .slice none 0 0]) ?_ 1 _ rfl; (with_reducible repeat (first | refine blk_drewN ?_ _ | refine blk_drew ?_ | refine blk_alloc ?_ _)); refine blk_put (cs := #[.int .i64 0, .int .i64 0, .int .i64 0, .slice none 0 0]) ?_ 0 _ rfl; (with_reducible repeat (first | refine blk_drewN ?_ _ | refine blk_drew ?_ | refine blk_alloc ?_ _)); exact BK150.out) hb); have n4_ := Aside0.mk (below_step (by repeat (first | (with_reducible first | exact HB.out | apply below_alloc | apply pw_below_drewN | apply below_drew1 | refine below_set ?_ GE142.out | refine below_set ?_ GE150.out) | exact HB.out)) hb); clear HO149; clear BK142; clear BK150; clear HB; have HO149 := n0_; have HO156 := n1_; have BK142 := n2_; have BK150 := n3_; have HB := n4_; clear n0_ n1_ n2_ n3_ n4_; (try clear hb); (try clear hb2); (try clear hk); (try clear hi); (try clear ho0)) | ((with_reducible refine gate_dst (N := 11) rfl ?_); refine box_event ?hg (N := 11) ?hd (cs := #[.int .i64 0, .int .i64 0, .int .i64 0, .slice none 0 0]) (t := 26) ?hr ?_; (case hd => rfl); (case hg => rfl); (case hr => first | (go_simp; done) | (go_simp; rfl)); intro gb157 hg w20 hbox hb; have n0_ := Aside0.mk (Kd.R_below (by (with_reducible repeat (first | apply Kd.R_alloc | apply Kd.R_drewN | apply Kd.R_drew)); exact HO149.out) hb); have n1_ := Aside0.mk (Kd.R_below (by (with_reducible repeat (first | apply Kd.R_alloc | apply Kd.R_drewN | apply Kd.R_drew)); exact HO156.out) hb); have n2_ := Aside0.mk (blk_below (g := gb142) (o := .cells #[.int .i64 a3_0, .int .i64 a3_1, .int .i64 a3_2] 41 (0, 0)) (by (with_reducible repeat (first | refine blk_drewN ?_ _ | refine blk_drew ?_ | refine blk_alloc ?_ _)); exact BK142.out) hb); have n3_ := Aside0.mk (blk_below (g := gb150) (o := .cells #[.int .i64 t144, .int .i64 t145, .int .i64 t146, .slice Ao18 t147.length co18] 26 (0, 0)) (by (with_reducible repeat (first | refine blk_drewN ?_ _ | refine blk_drew ?_ | refine blk_alloc ?_ _)); exact BK150.out) hb); have n4_ := Aside0.mk (below_step (by repeat (first | (with_reducible first | exact HB.out | apply below_alloc | apply pw_below_drewN | apply below_drew1 | refine below_set ?_ GE142.out | refine below_set ?_ GE150.out) | exact HB.out)) hb); have n5_ := Aside0.mk (hbox); have n6_ := Aside0.mk ((by rw [hg]; exact (below_size (by repeat (first | (with_reducible first | exact HB.out | apply below_alloc | apply pw_below_drewN | apply below_drew1 | refine below_set ?_ GE142.out | refine below_set ?_ GE150.out) | exact HB.out))) : w.heap.size ≤ gb157)); have n7_ := Aside0.mk ((by rw [hg]; exact (below_size (by repeat (first | (with_reducible first | exact HB.out | apply below_alloc | apply pw_below_drewN | apply below_drew1 | refine below_set ?_ GE142.out | refine below_set ?_ GE150.out) | exact HB.out))) : w.heap.size ≤ gb157)); have n8_ := Aside0.mk ((by rw [hg]; exact Nat.ne_of_lt (blk_lt (g := gb142) (o := .cells #[.int .i64 a3_0, .int .i64 a3_1, .int .i64 a3_2] 41 (0, 0)) (by (with_reducible repeat (first | refine blk_drewN ?_ _ | refine blk_drew ?_ | refine blk_alloc ?_ _)); exact BK142.out)) : gb142 ≠ gb157)); have n9_ := Aside0.mk ((by rw [hg]; exact Nat.ne_of_gt (blk_lt (g := gb142) (o := .cells #[.int .i64 a3_0, .int .i64 a3_1, .int .i64 a3_2] 41 (0, 0)) (by (with_reducible repeat (first | refine blk_drewN ?_ _ | refine blk_drew ?_ | refine blk_alloc ?_ _)); exact BK142.out)) : gb157 ≠ gb142)); have n10_ := Aside0.mk ((by rw [hg]; exact Nat.ne_of_lt (blk_lt (g := gb150) (o := .cells #[.int .i64 t144, .int .i64 t145, .int .i64 t146, .slice Ao18 t147.length co18] 26 (0, 0)) (by (with_reducible repeat (first | refine blk_drewN ?_ _ | refine blk_drew ?_ | refine blk_alloc ?_ _)); exact BK150.out)) : gb150 ≠ gb157)); have n11_ := Aside0.mk ((by rw [hg]; exact Nat.ne_of_gt (blk_lt (g := gb150) (o := .cells #[.int .i64 t144, .int .i64 t145, .int .i64 t146, .slice Ao18 t147.length co18] 26 (0, 0)) (by (with_reducible repeat (first | refine blk_drewN ?_ _ | refine blk_drew ?_ | refine blk_alloc ?_ _)); exact BK150.out)) : gb157 ≠ gb150)); clear HO149; clear HO156; clear BK142; clear BK150; clear HB; have HO149 := n0_; have HO156 := n1_; have BK142 := n2_; have BK150 := n3_; have HB := n4_; have BK157 := n5_; have GW157 := n6_; have GE157 := n7_; have NB142_157 := n8_; have NB157_142 := n9_; have NB150_157 := n10_; have NB157_150 := n11_; clear n0_ n1_ n2_ n3_ n4_ n5_ n6_ n7_ n8_ n9_ n10_ n11_; clear hb hbox hg; have hnb21 := NB157_142.out; have hnc21 := NB142_157.out; have hnb22 := NB157_150.out; have hnc22 := NB150_157.out; have hcz23_0 : w20.cell? ⟨gb157, 0, none⟩ = some (.int .i64 0) := (blk_cell BK157.out 0).trans rfl; have hcz23_1 : w20.cell? ⟨gb157, 1, none⟩ = some (.int .i64 0) := (blk_cell BK157.out 1).trans rfl; have hcz23_2 : w20.cell? ⟨gb157, 2, none⟩ = some (.int .i64 0) := (blk_cell BK157.out 2).trans rfl; have hcz23_3 : w20.cell? ⟨gb157, 3, none⟩ = some (.slice none 0 0) := (blk_cell BK157.out 3).trans rfl; have hfz23_0 := blk_frozen BK157.out 0; have hfz23_1 := blk_frozen BK157.out 1; have hfz23_2 := blk_frozen BK157.out 2; have hfz23_3 := blk_frozen BK157.out 3; obtain ⟨Ao24, co24, eo24⟩ := Kd.R_slice HO156.out; subst eo24))
      have n0_ : Aside0 (Kd.R k28 28 ((((w20.setCell ⟨gb157, 0, none⟩ (.int .i64 t151)).setCell ⟨gb157, 1, none⟩ (.int .i64 t152)).setCell ⟨gb157, 2, none⟩ (.int .i64 t153)).setCell ⟨gb157, 3, none⟩ (.slice Ao24 t154.length co24)) w.heap.size (fun k_ => some k_ ≠ (.slice Ao24 t154.length co24 : Value).ownBlock) (.slice Ao18 t147.length co18) t147) := ⟨by (with_reducible repeat (first | apply Kd.R_alloc | apply Kd.R_drewN | apply Kd.R_drew)); exact Kd.R_mono (Kd.R_far (p := ⟨gb157, 3, none⟩) (Kd.R_far (p := ⟨gb157, 2, none⟩) (Kd.R_far (p := ⟨gb157, 1, none⟩) (Kd.R_far (p := ⟨gb157, 0, none⟩) (Kd.R_types HO149.out BK157.out (by decide)) (fun _ hk => hk.2) (.int .i64 t151)) (fun _ hk => hk.2) (.int .i64 t152)) (fun _ hk => hk.2) (.int .i64 t153)) (fun _ hk => hk.2) (.slice Ao24 t154.length co24)) (fun _ hk => hk.1.2)⟩
      have n1_ : Aside0 (Kd.R k28 28 ((((w20.setCell ⟨gb157, 0, none⟩ (.int .i64 t151)).setCell ⟨gb157, 1, none⟩ (.int .i64 t152)).setCell ⟨gb157, 2, none⟩ (.int .i64 t153)).setCell ⟨gb157, 3, none⟩ (.slice Ao24 t154.length co24)) w.heap.size (fun k_ => some k_ ≠ (.slice Ao18 t147.length co18 : Value).ownBlock) (.slice Ao24 t154.length co24) t154) := ⟨by (with_reducible repeat (first | apply Kd.R_alloc | apply Kd.R_drewN | apply Kd.R_drew)); exact Kd.R_mono (Kd.R_far (p := ⟨gb157, 3, none⟩) (Kd.R_far (p := ⟨gb157, 2, none⟩) (Kd.R_far (p := ⟨gb157, 1, none⟩) (Kd.R_far (p := ⟨gb157, 0, none⟩) (Kd.R_types HO156.out BK157.out (by decide)) (fun _ hk => hk.2) (.int .i64 t151)) (fun _ hk => hk.2) (.int .i64 t152)) (fun _ hk => hk.2) (.int .i64 t153)) (fun _ hk => hk.2) (.slice Ao24 t154.length co24)) (fun _ hk => hk.1.2)⟩
      have n2_ : Aside0 (((((w20.setCell ⟨gb157, 0, none⟩ (.int .i64 t151)).setCell ⟨gb157, 1, none⟩ (.int .i64 t152)).setCell ⟨gb157, 2, none⟩ (.int .i64 t153)).setCell ⟨gb157, 3, none⟩ (.slice Ao24 t154.length co24)).heap[gb142]? = some (.cells #[.int .i64 a3_0, .int .i64 a3_1, .int .i64 a3_2] 41 (0, 0))) := ⟨by (with_reducible repeat (first | refine blk_drewN ?_ _ | refine blk_drew ?_ | refine blk_alloc ?_ _)); refine blk_far ?_ NB142_157.out _; (with_reducible repeat (first | refine blk_drewN ?_ _ | refine blk_drew ?_ | refine blk_alloc ?_ _)); refine blk_far ?_ NB142_157.out _; (with_reducible repeat (first | refine blk_drewN ?_ _ | refine blk_drew ?_ | refine blk_alloc ?_ _)); refine blk_far ?_ NB142_157.out _; (with_reducible repeat (first | refine blk_drewN ?_ _ | refine blk_drew ?_ | refine blk_alloc ?_ _)); refine blk_far ?_ NB142_157.out _; (with_reducible repeat (first | refine blk_drewN ?_ _ | refine blk_drew ?_ | refine blk_alloc ?_ _)); exact BK142.out⟩
      have n3_ : Aside0 (((((w20.setCell ⟨gb157, 0, none⟩ (.int .i64 t151)).setCell ⟨gb157, 1, none⟩ (.int .i64 t152)).setCell ⟨gb157, 2, none⟩ (.int .i64 t153)).setCell ⟨gb157, 3, none⟩ (.slice Ao24 t154.length co24)).heap[gb150]? = some (.cells #[.int .i64 t144, .int .i64 t145, .int .i64 t146, .slice Ao18 t147.length co18] 26 (0, 0))) := ⟨by (with_reducible repeat (first | refine blk_drewN ?_ _ | refine blk_drew ?_ | refine blk_alloc ?_ _)); refine blk_far ?_ NB150_157.out _; (with_reducible repeat (first | refine blk_drewN ?_ _ | refine blk_drew ?_ | refine blk_alloc ?_ _)); refine blk_far ?_ NB150_157.out _; (with_reducible repeat (first | refine blk_drewN ?_ _ | refine blk_drew ?_ | refine blk_alloc ?_ _)); refine blk_far ?_ NB150_157.out _; (with_reducible repeat (first | refine blk_drewN ?_ _ | refine blk_drew ?_ | refine blk_alloc ?_ _)); refine blk_far ?_ NB150_157.out _; (with_reducible repeat (first | refine blk_drewN ?_ _ | refine blk_drew ?_ | refine blk_alloc ?_ _)); exact BK150.out⟩
      have n4_ : Aside0 (((((w20.setCell ⟨gb157, 0, none⟩ (.int .i64 t151)).setCell ⟨gb157, 1, none⟩ (.int .i64 t152)).setCell ⟨gb157, 2, none⟩ (.int .i64 t153)).setCell ⟨gb157, 3, none⟩ (.slice Ao24 t154.length co24)).heap[gb157]? = some (.cells #[.int .i64 t151, .int .i64 t152, .int .i64 t153, .slice Ao24 t154.length co24] 26 (0, 0))) := ⟨by (with_reducible repeat (first | refine blk_drewN ?_ _ | refine blk_drew ?_ | refine blk_alloc ?_ _)); refine blk_put (cs := #[.int .i64 t151, .int .i64 t152, .int .i64 t153, .slice none 0 0]) ?_ 3 _ rfl; (with_reducible repeat (first | refine blk_drewN ?_ _ | refine blk_drew ?_ | refine blk_alloc ?_ _)); refine blk_put (cs := #[.int .i64 t151, .int .i64 t152, .int .i64 0, .slice none 0 0]) ?_ 2 _ rfl; (with_reducible repeat (first | refine blk_drewN ?_ _ | refine blk_drew ?_ | refine blk_alloc ?_ _)); refine blk_put (cs := #[.int .i64 t151, .int .i64 0, .int .i64 0, .slice none 0 0]) ?_ 1 _ rfl; (with_reducible repeat (first | refine blk_drewN ?_ _ | refine blk_drew ?_ | refine blk_alloc ?_ _)); refine blk_put (cs := #[.int .i64 0, .int .i64 0, .int .i64 0, .slice none 0 0]) ?_ 0 _ rfl; (with_reducible repeat (first | refine blk_drewN ?_ _ | refine blk_drew ?_ | refine blk_alloc ?_ _)); exact BK157.out⟩
      have n5_ : Aside0 (Below w.heap.size w ((((w20.setCell ⟨gb157, 0, none⟩ (.int .i64 t151)).setCell ⟨gb157, 1, none⟩ (.int .i64 t152)).setCell ⟨gb157, 2, none⟩ (.int .i64 t153)).setCell ⟨gb157, 3, none⟩ (.slice Ao24 t154.length co24))) := ⟨by repeat (first | (with_reducible first | exact HB.out | apply below_alloc | apply pw_below_drewN | apply below_drew1 | refine below_set ?_ GE142.out | refine below_set ?_ GE150.out | refine below_set ?_ GE157.out) | exact HB.out)⟩
      (try clear HO149)
      (try clear HO156)
      (try clear BK142)
      (try clear BK150)
      (try clear BK157)
      (try clear HB)
      (try simp only [Go.Proofs.YtjbeofcgnnlllaaW.MyOpen.setCell_drewN_out])
      generalize ((((w20.setCell ⟨gb157, 0, none⟩ (.int .i64 t151)).setCell ⟨gb157, 1, none⟩ (.int .i64 t152)).setCell ⟨gb157, 2, none⟩ (.int .i64 t153)).setCell ⟨gb157, 3, none⟩ (.slice Ao24 t154.length co24)) = w25 at n0_ n1_ n2_ n3_ n4_ n5_ ⊢
      have HO149 := n0_
      have HO156 := n1_
      have BK142 := n2_
      have BK150 := n3_
      have BK157 := n4_
      have HB := n5_
      clear n0_ n1_ n2_ n3_ n4_ n5_
      have n0_ := Aside0.mk (Kd.R_drew HO149.out)
      have n1_ := Aside0.mk (Kd.R_drew HO156.out)
      have n2_ := Aside0.mk (blk_drew BK142.out)
      have n3_ := Aside0.mk (blk_drew BK150.out)
      have n4_ := Aside0.mk (blk_drew BK157.out)
      have n5_ := Aside0.mk (below_drew1 HB.out)
      clear HO149
      clear HO156
      clear BK142
      clear BK150
      clear BK157
      clear HB
      have HO149 := n0_
      have HO156 := n1_
      have BK142 := n2_
      have BK150 := n3_
      have BK157 := n4_
      have HB := n5_
      clear n0_ n1_ n2_ n3_ n4_ n5_
      refine start_ (n := 15) (S := fun w' => w'.cell? ⟨gb142, 0, none⟩ = some (.int .i64 a3_0) ∧ w'.cell? ⟨gb142, 1, none⟩ = some (.int .i64 a3_1) ∧ w'.cell? ⟨gb142, 2, none⟩ = some (.int .i64 a3_2) ∧ w'.cell? ⟨gb150, 0, none⟩ = some (.int .i64 t144) ∧ w'.cell? ⟨gb150, 1, none⟩ = some (.int .i64 t145) ∧ w'.cell? ⟨gb150, 2, none⟩ = some (.int .i64 t146) ∧ w'.cell? ⟨gb150, 3, none⟩ = some (.slice Ao18 t147.length co18)) (ds := []) #[false, false, false, false, false, false, false, false, false, false, false, false, false, false, false] (by kernel_rfl) rfl rfl ⟨(blk_cell BK142.out 0).trans rfl, (blk_cell BK142.out 1).trans rfl, (blk_cell BK142.out 2).trans rfl, (blk_cell BK150.out 0).trans rfl, (blk_cell BK150.out 1).trans rfl, (blk_cell BK150.out 2).trans rfl, (blk_cell BK150.out 3).trans rfl⟩ (fun hHeld => ?_); refine with_tabW racewaylaw3_NetDegrees.tab6 racewaylaw3_NetDegrees.bits6 (fun HT_ HW_ => ?_)
      generalize w25.drew = w26 at HO149 HO156 BK142 BK150 BK157 HB hHeld ⊢
      refine pure_ (i := 0) (N := some 27) (v := ?_) (a' := ?_) #[true, false, false, false, false, false, false, false, false, false, false, false, false, false, false] rfl rfl (any_of HT_.out (by kernel_rfl)) (fun _ _ _ h => h) (Or.inl ⟨by rfl, ?_⟩) ?_ ?_
      rotate_left
      · intro w'
        go_simp
        with_reducible rfl
      rotate_left
      · simp only [Act.put, List.setIfInBounds_toArray, List.set_cons_zero, List.set_cons_succ, i64_w, i32_w]
        rfl
      refine pure_ (i := 2) (N := some 29) (v := ?_) (a' := ?_) #[true, false, true, false, false, false, false, false, false, false, false, false, false, false, false] rfl rfl (any_of HT_.out (by kernel_rfl)) (fun _ _ _ h => h) (Or.inl ⟨by rfl, ?_⟩) ?_ ?_
      rotate_left
      · intro w'
        go_simp
        with_reducible rfl
      rotate_left
      · simp only [Act.put, List.setIfInBounds_toArray, List.set_cons_zero, List.set_cons_succ, i64_w, i32_w]
        rfl
      refine pure_ (i := 6) (N := some 33) (v := ?_) (a' := ?_) #[true, false, true, false, false, false, true, false, false, false, false, false, false, false, false] rfl rfl (any_of HT_.out (by kernel_rfl)) (fun _ _ _ h => h) (Or.inl ⟨by rfl, ?_⟩) ?_ ?_
      rotate_left
      · intro w'
        go_simp
        with_reducible rfl
      rotate_left
      · simp only [Act.put, List.setIfInBounds_toArray, List.set_cons_zero, List.set_cons_succ, i64_w, i32_w]
        rfl
      refine pure_ (i := 8) (N := some 35) (v := ?_) (a' := ?_) #[true, false, true, false, false, false, true, false, true, false, false, false, false, false, false] rfl rfl (any_of HT_.out (by kernel_rfl)) (fun _ _ _ h => h) (Or.inl ⟨by rfl, ?_⟩) ?_ ?_
      rotate_left
      · intro w'
        go_simp
        with_reducible rfl
      rotate_left
      · simp only [Act.put, List.setIfInBounds_toArray, List.set_cons_zero, List.set_cons_succ, i64_w, i32_w]
        rfl
      refine take_ (i := 1) (N := some 28) (v := ?_) (a' := ?_) #[true, true, true, false, false, false, true, false, true, false, false, false, false, false, false] rfl rfl (take_ofW HT_.out HW_.out (by kernel_rfl)) (fun _ _ _ h => h) (Or.inl ⟨by rfl, ?_⟩) hHeld ?_ ?_
      rotate_left
      · rintro w' ⟨s0, s1, s2, s3, s4, s5, s6⟩
        go_simp
        with_reducible rfl
      rotate_left
      · simp only [Act.put, List.setIfInBounds_toArray, List.set_cons_zero, List.set_cons_succ, i64_w, i32_w]
        rfl
      refine take_ (i := 3) (N := some 30) (v := ?_) (a' := ?_) #[true, true, true, true, false, false, true, false, true, false, false, false, false, false, false] rfl rfl (take_ofW HT_.out HW_.out (by kernel_rfl)) (fun _ _ _ h => h) (Or.inl ⟨by rfl, ?_⟩) hHeld ?_ ?_
      rotate_left
      · rintro w' ⟨s0, s1, s2, s3, s4, s5, s6⟩
        go_simp
        with_reducible rfl
      rotate_left
      · simp only [Act.put, List.setIfInBounds_toArray, List.set_cons_zero, List.set_cons_succ, i64_w, i32_w]
        rfl
      refine take_ (i := 7) (N := some 34) (v := ?_) (a' := ?_) #[true, true, true, true, false, false, true, true, true, false, false, false, false, false, false] rfl rfl (take_ofW HT_.out HW_.out (by kernel_rfl)) (fun _ _ _ h => h) (Or.inl ⟨by rfl, ?_⟩) hHeld ?_ ?_
      rotate_left
      · rintro w' ⟨s0, s1, s2, s3, s4, s5, s6⟩
        go_simp
        with_reducible rfl
      rotate_left
      · simp only [Act.put, List.setIfInBounds_toArray, List.set_cons_zero, List.set_cons_succ, i64_w, i32_w]
        rfl
      refine take_ (i := 9) (N := some 36) (v := ?_) (a' := ?_) #[true, true, true, true, false, false, true, true, true, true, false, false, false, false, false] rfl rfl (take_ofW HT_.out HW_.out (by kernel_rfl)) (fun _ _ _ h => h) (Or.inl ⟨by rfl, ?_⟩) hHeld ?_ ?_
      rotate_left
      · rintro w' ⟨s0, s1, s2, s3, s4, s5, s6⟩
        go_simp
        with_reducible rfl
      rotate_left
      · simp only [Act.put, List.setIfInBounds_toArray, List.set_cons_zero, List.set_cons_succ, i64_w, i32_w]
        rfl
      refine join_ (σ := Nat) 1 #[true, true, true, true, true, true, true, true, true, true, true, true, true, true, false] (fun s_ => [(31, .int .i64 t158), (37, .int .i64 t159), (12, .pointer (some ⟨s_, 0, none⟩)), (32, .int .i64 (wrap64 (1 + t158))), (38, .int .i64 (wrap64 (1 + t159))), (39, .agg #[.int .i64 (wrap64 (1 + t158)), .int .i64 (wrap64 (1 + t159)), .int .i64 1])]) (fun s_ w' => (w'.cell? ⟨gb142, 0, none⟩ = some (.int .i64 a3_0) ∧ w'.cell? ⟨gb142, 1, none⟩ = some (.int .i64 a3_1) ∧ w'.cell? ⟨gb142, 2, none⟩ = some (.int .i64 a3_2) ∧ w'.cell? ⟨gb150, 0, none⟩ = some (.int .i64 t144) ∧ w'.cell? ⟨gb150, 1, none⟩ = some (.int .i64 t145) ∧ w'.cell? ⟨gb150, 2, none⟩ = some (.int .i64 t146) ∧ w'.cell? ⟨gb150, 3, none⟩ = some (.slice Ao18 t147.length co18)) ∧ (Kd.R k28 28 w' w.heap.size (fun k_ => some k_ ≠ (.slice Ao24 t154.length co24 : Value).ownBlock ∧ k_ ≠ s_) (.slice Ao18 t147.length co18) t147) ∧ (Kd.R k28 28 w' w.heap.size (fun k_ => some k_ ≠ (.slice Ao18 t147.length co18 : Value).ownBlock ∧ k_ ≠ s_) (.slice Ao24 t154.length co24) t154) ∧ (w'.heap[gb142]? = some (.cells #[.int .i64 a3_0, .int .i64 a3_1, .int .i64 a3_2] 41 (0, 0))) ∧ (w'.heap[gb150]? = some (.cells #[.int .i64 t144, .int .i64 t145, .int .i64 t146, .slice Ao18 t147.length co18] 26 (0, 0))) ∧ (w'.heap[gb157]? = some (.cells #[.int .i64 t151, .int .i64 t152, .int .i64 t153, .slice Ao24 t154.length co24] 26 (0, 0))) ∧ (w'.heap[s_]? = some (.cells #[.int .i64 0, .int .i64 0, .int .i64 0] 28 (0, 0))) ∧ (w.heap.size ≤ s_) ∧ (w.heap.size ≤ s_) ∧ (gb142 ≠ s_) ∧ (s_ ≠ gb142) ∧ (gb150 ≠ s_) ∧ (s_ ≠ gb150) ∧ (gb157 ≠ s_) ∧ (s_ ≠ gb157) ∧ (Below w.heap.size w w')) ?_ ?_
      rotate_left
      · intro hCont
        refine two_ (i := 4) (j := 13) (Ni := some 31) (Nj := some 12) #[true, true, true, true, true, false, true, true, true, true, false, false, false, false, false] #[true, true, true, true, false, false, true, true, true, true, false, false, false, true, false] rfl rfl rfl rfl (two_of HT_.out (by kernel_rfl)) (by decide) (by decide) (fun K hK => ?_) (fun K hK => ?_)
        · skip
          refine goes_ Try.func15 (by kernel_rfl) rfl #[.int .i64 a3_0, .int .i64 t144] (by rfl) rfl rfl (by (try simp only [List.map_toArray, List.map_cons, List.map_nil]); first | done | rfl | (simp only [List.length_drop, List.length_take]; rfl)) ?_
          with_reducible refine (racewaylaw3_pick.calls a3_0 t144 t158 _ A9.out).mono ?_
          rintro e w' ⟨rfl, ⟨nd, rfl⟩⟩
          refine ⟨_, rfl, ?_⟩
          refine hK.out _ _ ⟨(blk_cell BK142.out 0).trans rfl, (blk_cell BK142.out 1).trans rfl, (blk_cell BK142.out 2).trans rfl, (blk_cell BK150.out 0).trans rfl, (blk_cell BK150.out 1).trans rfl, (blk_cell BK150.out 2).trans rfl, (blk_cell BK150.out 3).trans rfl⟩ (fun hHeld => ?_)
          clear hK K
          refine norm_ (a' := ?_) ?_ ?_
          rotate_left
          · show Act.put _ (some 31) _ = _
            simp only [Act.put, List.setIfInBounds_toArray, List.set_cons_zero, List.set_cons_succ, i64_w, i32_w]
            rfl
          refine pure_ (i := 5) (N := some 32) (v := ?_) (a' := ?_) #[true, true, true, true, true, true, true, true, true, true, false, false, false, false, false] rfl rfl (any_of HT_.out (by kernel_rfl)) (fun _ _ _ h => h) (Or.inl ⟨by rfl, ?_⟩) ?_ ?_
          rotate_left
          · intro w'
            go_simp
            with_reducible rfl
          rotate_left
          · simp only [Act.put, List.setIfInBounds_toArray, List.set_cons_zero, List.set_cons_succ, i64_w, i32_w]
            rfl
          refine two_ (i := 10) (j := 13) (Ni := some 37) (Nj := some 12) #[true, true, true, true, true, true, true, true, true, true, true, false, false, false, false] #[true, true, true, true, true, true, true, true, true, true, false, false, false, true, false] rfl rfl rfl rfl (two_of HT_.out (by kernel_rfl)) (by decide) (by decide) (fun K hK => ?_) (fun K hK => ?_)
          · skip
            refine goes_ Try.func15 (by kernel_rfl) rfl #[.int .i64 a3_1, .int .i64 t144] (by rfl) rfl rfl (by (try simp only [List.map_toArray, List.map_cons, List.map_nil]); first | done | rfl | (simp only [List.length_drop, List.length_take]; rfl)) ?_
            with_reducible refine (racewaylaw3_pick.calls a3_1 t144 t159 _ A10.out).mono ?_
            rintro e w' ⟨rfl, ⟨nd, rfl⟩⟩
            refine ⟨_, rfl, ?_⟩
            refine hK.out _ _ ⟨(blk_cell BK142.out 0).trans rfl, (blk_cell BK142.out 1).trans rfl, (blk_cell BK142.out 2).trans rfl, (blk_cell BK150.out 0).trans rfl, (blk_cell BK150.out 1).trans rfl, (blk_cell BK150.out 2).trans rfl, (blk_cell BK150.out 3).trans rfl⟩ (fun hHeld => ?_)
            clear hK K
            refine norm_ (a' := ?_) ?_ ?_
            rotate_left
            · show Act.put _ (some 37) _ = _
              simp only [Act.put, List.setIfInBounds_toArray, List.set_cons_zero, List.set_cons_succ, i64_w, i32_w]
              rfl
            refine pure_ (i := 11) (N := some 38) (v := ?_) (a' := ?_) #[true, true, true, true, true, true, true, true, true, true, true, true, false, false, false] rfl rfl (any_of HT_.out (by kernel_rfl)) (fun _ _ _ h => h) (Or.inl ⟨by rfl, ?_⟩) ?_ ?_
            rotate_left
            · intro w'
              go_simp
              with_reducible rfl
            rotate_left
            · simp only [Act.put, List.setIfInBounds_toArray, List.set_cons_zero, List.set_cons_succ, i64_w, i32_w]
              rfl
            refine pure_ (i := 12) (N := some 39) (v := ?_) (a' := ?_) #[true, true, true, true, true, true, true, true, true, true, true, true, true, false, false] rfl rfl (any_of HT_.out (by kernel_rfl)) (fun _ _ _ h => h) (Or.inl ⟨by rfl, ?_⟩) ?_ ?_
            rotate_left
            · intro w'
              go_simp
              with_reducible rfl
            rotate_left
            · simp only [Act.put, List.setIfInBounds_toArray, List.set_cons_zero, List.set_cons_succ, i64_w, i32_w]
              rfl
            refine one_ (i := 13) (N := some 12) #[true, true, true, true, true, true, true, true, true, true, true, true, true, true, false] rfl rfl (one_of HT_.out (by kernel_rfl)) (by decide) (fun K hK => ?_)
            refine box_step ?hg (N := 12) ?hd (cs := #[.int .i64 0, .int .i64 0, .int .i64 0]) (t := 28) ?hr ?_; (case hd => rfl); (case hg => rfl); (case hr => first | (go_simp; done) | (go_simp; rfl))
            intro gb160 hg w27 hbox hb
            have n0_ := Aside0.mk (Kd.R_below (Kd.R_elderB (by (with_reducible repeat (first | apply Kd.R_alloc | apply Kd.R_drewN | apply Kd.R_drew)); exact HO149.out) gb160 (Nat.le_of_eq hg.symm)) hb)
            have n1_ := Aside0.mk (Kd.R_below (Kd.R_elderB (by (with_reducible repeat (first | apply Kd.R_alloc | apply Kd.R_drewN | apply Kd.R_drew)); exact HO156.out) gb160 (Nat.le_of_eq hg.symm)) hb)
            have n2_ := Aside0.mk (blk_below (g := gb142) (o := .cells #[.int .i64 a3_0, .int .i64 a3_1, .int .i64 a3_2] 41 (0, 0)) (by (with_reducible repeat (first | refine blk_drewN ?_ _ | refine blk_drew ?_ | refine blk_alloc ?_ _)); exact BK142.out) hb)
            have n3_ := Aside0.mk (blk_below (g := gb150) (o := .cells #[.int .i64 t144, .int .i64 t145, .int .i64 t146, .slice Ao18 t147.length co18] 26 (0, 0)) (by (with_reducible repeat (first | refine blk_drewN ?_ _ | refine blk_drew ?_ | refine blk_alloc ?_ _)); exact BK150.out) hb)
            have n4_ := Aside0.mk (blk_below (g := gb157) (o := .cells #[.int .i64 t151, .int .i64 t152, .int .i64 t153, .slice Ao24 t154.length co24] 26 (0, 0)) (by (with_reducible repeat (first | refine blk_drewN ?_ _ | refine blk_drew ?_ | refine blk_alloc ?_ _)); exact BK157.out) hb)
            have n5_ := Aside0.mk (below_step (by repeat (first | (with_reducible first | exact HB.out | apply below_alloc | apply pw_below_drewN | apply below_drew1 | refine below_set ?_ GE142.out | refine below_set ?_ GE150.out | refine below_set ?_ GE157.out) | exact HB.out)) hb)
            have n6_ := Aside0.mk (hbox)
            have n7_ := Aside0.mk ((by rw [hg]; exact (below_size (by repeat (first | (with_reducible first | exact HB.out | apply below_alloc | apply pw_below_drewN | apply below_drew1 | refine below_set ?_ GE142.out | refine below_set ?_ GE150.out | refine below_set ?_ GE157.out) | exact HB.out))) : w.heap.size ≤ gb160))
            have n8_ := Aside0.mk ((by rw [hg]; exact (below_size (by repeat (first | (with_reducible first | exact HB.out | apply below_alloc | apply pw_below_drewN | apply below_drew1 | refine below_set ?_ GE142.out | refine below_set ?_ GE150.out | refine below_set ?_ GE157.out) | exact HB.out))) : w.heap.size ≤ gb160))
            have n9_ := Aside0.mk ((by rw [hg]; exact Nat.ne_of_lt (blk_lt (g := gb142) (o := .cells #[.int .i64 a3_0, .int .i64 a3_1, .int .i64 a3_2] 41 (0, 0)) (by (with_reducible repeat (first | refine blk_drewN ?_ _ | refine blk_drew ?_ | refine blk_alloc ?_ _)); exact BK142.out)) : gb142 ≠ gb160))
            have n10_ := Aside0.mk ((by rw [hg]; exact Nat.ne_of_gt (blk_lt (g := gb142) (o := .cells #[.int .i64 a3_0, .int .i64 a3_1, .int .i64 a3_2] 41 (0, 0)) (by (with_reducible repeat (first | refine blk_drewN ?_ _ | refine blk_drew ?_ | refine blk_alloc ?_ _)); exact BK142.out)) : gb160 ≠ gb142))
            have n11_ := Aside0.mk ((by rw [hg]; exact Nat.ne_of_lt (blk_lt (g := gb150) (o := .cells #[.int .i64 t144, .int .i64 t145, .int .i64 t146, .slice Ao18 t147.length co18] 26 (0, 0)) (by (with_reducible repeat (first | refine blk_drewN ?_ _ | refine blk_drew ?_ | refine blk_alloc ?_ _)); exact BK150.out)) : gb150 ≠ gb160))
            have n12_ := Aside0.mk ((by rw [hg]; exact Nat.ne_of_gt (blk_lt (g := gb150) (o := .cells #[.int .i64 t144, .int .i64 t145, .int .i64 t146, .slice Ao18 t147.length co18] 26 (0, 0)) (by (with_reducible repeat (first | refine blk_drewN ?_ _ | refine blk_drew ?_ | refine blk_alloc ?_ _)); exact BK150.out)) : gb160 ≠ gb150))
            have n13_ := Aside0.mk ((by rw [hg]; exact Nat.ne_of_lt (blk_lt (g := gb157) (o := .cells #[.int .i64 t151, .int .i64 t152, .int .i64 t153, .slice Ao24 t154.length co24] 26 (0, 0)) (by (with_reducible repeat (first | refine blk_drewN ?_ _ | refine blk_drew ?_ | refine blk_alloc ?_ _)); exact BK157.out)) : gb157 ≠ gb160))
            have n14_ := Aside0.mk ((by rw [hg]; exact Nat.ne_of_gt (blk_lt (g := gb157) (o := .cells #[.int .i64 t151, .int .i64 t152, .int .i64 t153, .slice Ao24 t154.length co24] 26 (0, 0)) (by (with_reducible repeat (first | refine blk_drewN ?_ _ | refine blk_drew ?_ | refine blk_alloc ?_ _)); exact BK157.out)) : gb160 ≠ gb157))
            clear HO149
            clear HO156
            clear BK142
            clear BK150
            clear BK157
            clear HB
            have HO149 := n0_
            have HO156 := n1_
            have BK142 := n2_
            have BK150 := n3_
            have BK157 := n4_
            have HB := n5_
            have BK160 := n6_
            have GW160 := n7_
            have GE160 := n8_
            have NB142_160 := n9_
            have NB160_142 := n10_
            have NB150_160 := n11_
            have NB160_150 := n12_
            have NB157_160 := n13_
            have NB160_157 := n14_
            clear n0_ n1_ n2_ n3_ n4_ n5_ n6_ n7_ n8_ n9_ n10_ n11_ n12_ n13_ n14_
            clear hb hbox hg
            refine hK.out _ _ ⟨(blk_cell BK142.out 0).trans rfl, (blk_cell BK142.out 1).trans rfl, (blk_cell BK142.out 2).trans rfl, (blk_cell BK150.out 0).trans rfl, (blk_cell BK150.out 1).trans rfl, (blk_cell BK150.out 2).trans rfl, (blk_cell BK150.out 3).trans rfl⟩ (fun hHeld => ?_)
            clear hK K
            refine norm_ (a' := ?_) ?_ ?_
            rotate_left
            · show Act.put _ (some 12) _ = _
              simp only [Act.put, List.setIfInBounds_toArray, List.set_cons_zero, List.set_cons_succ, i64_w, i32_w]
              rfl
            exact norm_ (by simp only [putAll, Act.put, List.setIfInBounds_toArray, List.set_cons_zero, List.set_cons_succ]) (hCont (gb160) _ ⟨hHeld, (by (with_reducible repeat (first | apply Kd.R_alloc | apply Kd.R_drewN | apply Kd.R_drew)); exact HO149.out), (by (with_reducible repeat (first | apply Kd.R_alloc | apply Kd.R_drewN | apply Kd.R_drew)); exact HO156.out), (by (with_reducible repeat (first | refine blk_drewN ?_ _ | refine blk_drew ?_ | refine blk_alloc ?_ _)); exact BK142.out), (by (with_reducible repeat (first | refine blk_drewN ?_ _ | refine blk_drew ?_ | refine blk_alloc ?_ _)); exact BK150.out), (by (with_reducible repeat (first | refine blk_drewN ?_ _ | refine blk_drew ?_ | refine blk_alloc ?_ _)); exact BK157.out), (by (with_reducible repeat (first | refine blk_drewN ?_ _ | refine blk_drew ?_ | refine blk_alloc ?_ _)); exact BK160.out), GW160.out, GE160.out, NB142_160.out, NB160_142.out, NB150_160.out, NB160_150.out, NB157_160.out, NB160_157.out, (by repeat (first | (with_reducible first | exact HB.out | apply below_alloc | apply pw_below_drewN | apply below_drew1 | refine below_set ?_ GE142.out | refine below_set ?_ GE150.out | refine below_set ?_ GE157.out | refine below_set ?_ GE160.out) | exact HB.out))⟩)
          · skip
            refine box_step ?hg (N := 12) ?hd (cs := #[.int .i64 0, .int .i64 0, .int .i64 0]) (t := 28) ?hr ?_; (case hd => rfl); (case hg => rfl); (case hr => first | (go_simp; done) | (go_simp; rfl))
            intro gb160 hg w27 hbox hb
            have n0_ := Aside0.mk (Kd.R_below (Kd.R_elderB (by (with_reducible repeat (first | apply Kd.R_alloc | apply Kd.R_drewN | apply Kd.R_drew)); exact HO149.out) gb160 (Nat.le_of_eq hg.symm)) hb)
            have n1_ := Aside0.mk (Kd.R_below (Kd.R_elderB (by (with_reducible repeat (first | apply Kd.R_alloc | apply Kd.R_drewN | apply Kd.R_drew)); exact HO156.out) gb160 (Nat.le_of_eq hg.symm)) hb)
            have n2_ := Aside0.mk (blk_below (g := gb142) (o := .cells #[.int .i64 a3_0, .int .i64 a3_1, .int .i64 a3_2] 41 (0, 0)) (by (with_reducible repeat (first | refine blk_drewN ?_ _ | refine blk_drew ?_ | refine blk_alloc ?_ _)); exact BK142.out) hb)
            have n3_ := Aside0.mk (blk_below (g := gb150) (o := .cells #[.int .i64 t144, .int .i64 t145, .int .i64 t146, .slice Ao18 t147.length co18] 26 (0, 0)) (by (with_reducible repeat (first | refine blk_drewN ?_ _ | refine blk_drew ?_ | refine blk_alloc ?_ _)); exact BK150.out) hb)
            have n4_ := Aside0.mk (blk_below (g := gb157) (o := .cells #[.int .i64 t151, .int .i64 t152, .int .i64 t153, .slice Ao24 t154.length co24] 26 (0, 0)) (by (with_reducible repeat (first | refine blk_drewN ?_ _ | refine blk_drew ?_ | refine blk_alloc ?_ _)); exact BK157.out) hb)
            have n5_ := Aside0.mk (below_step (by repeat (first | (with_reducible first | exact HB.out | apply below_alloc | apply pw_below_drewN | apply below_drew1 | refine below_set ?_ GE142.out | refine below_set ?_ GE150.out | refine below_set ?_ GE157.out) | exact HB.out)) hb)
            have n6_ := Aside0.mk (hbox)
            have n7_ := Aside0.mk ((by rw [hg]; exact (below_size (by repeat (first | (with_reducible first | exact HB.out | apply below_alloc | apply pw_below_drewN | apply below_drew1 | refine below_set ?_ GE142.out | refine below_set ?_ GE150.out | refine below_set ?_ GE157.out) | exact HB.out))) : w.heap.size ≤ gb160))
            have n8_ := Aside0.mk ((by rw [hg]; exact (below_size (by repeat (first | (with_reducible first | exact HB.out | apply below_alloc | apply pw_below_drewN | apply below_drew1 | refine below_set ?_ GE142.out | refine below_set ?_ GE150.out | refine below_set ?_ GE157.out) | exact HB.out))) : w.heap.size ≤ gb160))
            have n9_ := Aside0.mk ((by rw [hg]; exact Nat.ne_of_lt (blk_lt (g := gb142) (o := .cells #[.int .i64 a3_0, .int .i64 a3_1, .int .i64 a3_2] 41 (0, 0)) (by (with_reducible repeat (first | refine blk_drewN ?_ _ | refine blk_drew ?_ | refine blk_alloc ?_ _)); exact BK142.out)) : gb142 ≠ gb160))
            have n10_ := Aside0.mk ((by rw [hg]; exact Nat.ne_of_gt (blk_lt (g := gb142) (o := .cells #[.int .i64 a3_0, .int .i64 a3_1, .int .i64 a3_2] 41 (0, 0)) (by (with_reducible repeat (first | refine blk_drewN ?_ _ | refine blk_drew ?_ | refine blk_alloc ?_ _)); exact BK142.out)) : gb160 ≠ gb142))
            have n11_ := Aside0.mk ((by rw [hg]; exact Nat.ne_of_lt (blk_lt (g := gb150) (o := .cells #[.int .i64 t144, .int .i64 t145, .int .i64 t146, .slice Ao18 t147.length co18] 26 (0, 0)) (by (with_reducible repeat (first | refine blk_drewN ?_ _ | refine blk_drew ?_ | refine blk_alloc ?_ _)); exact BK150.out)) : gb150 ≠ gb160))
            have n12_ := Aside0.mk ((by rw [hg]; exact Nat.ne_of_gt (blk_lt (g := gb150) (o := .cells #[.int .i64 t144, .int .i64 t145, .int .i64 t146, .slice Ao18 t147.length co18] 26 (0, 0)) (by (with_reducible repeat (first | refine blk_drewN ?_ _ | refine blk_drew ?_ | refine blk_alloc ?_ _)); exact BK150.out)) : gb160 ≠ gb150))
            have n13_ := Aside0.mk ((by rw [hg]; exact Nat.ne_of_lt (blk_lt (g := gb157) (o := .cells #[.int .i64 t151, .int .i64 t152, .int .i64 t153, .slice Ao24 t154.length co24] 26 (0, 0)) (by (with_reducible repeat (first | refine blk_drewN ?_ _ | refine blk_drew ?_ | refine blk_alloc ?_ _)); exact BK157.out)) : gb157 ≠ gb160))
            have n14_ := Aside0.mk ((by rw [hg]; exact Nat.ne_of_gt (blk_lt (g := gb157) (o := .cells #[.int .i64 t151, .int .i64 t152, .int .i64 t153, .slice Ao24 t154.length co24] 26 (0, 0)) (by (with_reducible repeat (first | refine blk_drewN ?_ _ | refine blk_drew ?_ | refine blk_alloc ?_ _)); exact BK157.out)) : gb160 ≠ gb157))
            clear HO149
            clear HO156
            clear BK142
            clear BK150
            clear BK157
            clear HB
            have HO149 := n0_
            have HO156 := n1_
            have BK142 := n2_
            have BK150 := n3_
            have BK157 := n4_
            have HB := n5_
            have BK160 := n6_
            have GW160 := n7_
            have GE160 := n8_
            have NB142_160 := n9_
            have NB160_142 := n10_
            have NB150_160 := n11_
            have NB160_150 := n12_
            have NB157_160 := n13_
            have NB160_157 := n14_
            clear n0_ n1_ n2_ n3_ n4_ n5_ n6_ n7_ n8_ n9_ n10_ n11_ n12_ n13_ n14_
            clear hb hbox hg
            refine hK.out _ _ ⟨(blk_cell BK142.out 0).trans rfl, (blk_cell BK142.out 1).trans rfl, (blk_cell BK142.out 2).trans rfl, (blk_cell BK150.out 0).trans rfl, (blk_cell BK150.out 1).trans rfl, (blk_cell BK150.out 2).trans rfl, (blk_cell BK150.out 3).trans rfl⟩ (fun hHeld => ?_)
            clear hK K
            refine norm_ (a' := ?_) ?_ ?_
            rotate_left
            · show Act.put _ (some 12) _ = _
              simp only [Act.put, List.setIfInBounds_toArray, List.set_cons_zero, List.set_cons_succ, i64_w, i32_w]
              rfl
            refine one_ (i := 10) (N := some 37) #[true, true, true, true, true, true, true, true, true, true, true, false, false, true, false] rfl rfl (one_of HT_.out (by kernel_rfl)) (by decide) (fun K hK => ?_)
            refine goes_ Try.func15 (by kernel_rfl) rfl #[.int .i64 a3_1, .int .i64 t144] (by rfl) rfl rfl (by (try simp only [List.map_toArray, List.map_cons, List.map_nil]); first | done | rfl | (simp only [List.length_drop, List.length_take]; rfl)) ?_
            with_reducible refine (racewaylaw3_pick.calls a3_1 t144 t159 _ A10.out).mono ?_
            rintro e w' ⟨rfl, ⟨nd, rfl⟩⟩
            refine ⟨_, rfl, ?_⟩
            refine hK.out _ _ ⟨(blk_cell BK142.out 0).trans rfl, (blk_cell BK142.out 1).trans rfl, (blk_cell BK142.out 2).trans rfl, (blk_cell BK150.out 0).trans rfl, (blk_cell BK150.out 1).trans rfl, (blk_cell BK150.out 2).trans rfl, (blk_cell BK150.out 3).trans rfl⟩ (fun hHeld => ?_)
            clear hK K
            refine norm_ (a' := ?_) ?_ ?_
            rotate_left
            · show Act.put _ (some 37) _ = _
              simp only [Act.put, List.setIfInBounds_toArray, List.set_cons_zero, List.set_cons_succ, i64_w, i32_w]
              rfl
            refine pure_ (i := 11) (N := some 38) (v := ?_) (a' := ?_) #[true, true, true, true, true, true, true, true, true, true, true, true, false, true, false] rfl rfl (any_of HT_.out (by kernel_rfl)) (fun _ _ _ h => h) (Or.inl ⟨by rfl, ?_⟩) ?_ ?_
            rotate_left
            · intro w'
              go_simp
              with_reducible rfl
            rotate_left
            · simp only [Act.put, List.setIfInBounds_toArray, List.set_cons_zero, List.set_cons_succ, i64_w, i32_w]
              rfl
            refine pure_ (i := 12) (N := some 39) (v := ?_) (a' := ?_) #[true, true, true, true, true, true, true, true, true, true, true, true, true, true, false] rfl rfl (any_of HT_.out (by kernel_rfl)) (fun _ _ _ h => h) (Or.inl ⟨by rfl, ?_⟩) ?_ ?_
            rotate_left
            · intro w'
              go_simp
              with_reducible rfl
            rotate_left
            · simp only [Act.put, List.setIfInBounds_toArray, List.set_cons_zero, List.set_cons_succ, i64_w, i32_w]
              rfl
            exact norm_ (by simp only [putAll, Act.put, List.setIfInBounds_toArray, List.set_cons_zero, List.set_cons_succ]) (hCont (gb160) _ ⟨hHeld, (by (with_reducible repeat (first | apply Kd.R_alloc | apply Kd.R_drewN | apply Kd.R_drew)); exact HO149.out), (by (with_reducible repeat (first | apply Kd.R_alloc | apply Kd.R_drewN | apply Kd.R_drew)); exact HO156.out), (by (with_reducible repeat (first | refine blk_drewN ?_ _ | refine blk_drew ?_ | refine blk_alloc ?_ _)); exact BK142.out), (by (with_reducible repeat (first | refine blk_drewN ?_ _ | refine blk_drew ?_ | refine blk_alloc ?_ _)); exact BK150.out), (by (with_reducible repeat (first | refine blk_drewN ?_ _ | refine blk_drew ?_ | refine blk_alloc ?_ _)); exact BK157.out), (by (with_reducible repeat (first | refine blk_drewN ?_ _ | refine blk_drew ?_ | refine blk_alloc ?_ _)); exact BK160.out), GW160.out, GE160.out, NB142_160.out, NB160_142.out, NB150_160.out, NB160_150.out, NB157_160.out, NB160_157.out, (by repeat (first | (with_reducible first | exact HB.out | apply below_alloc | apply pw_below_drewN | apply below_drew1 | refine below_set ?_ GE142.out | refine below_set ?_ GE150.out | refine below_set ?_ GE157.out | refine below_set ?_ GE160.out) | exact HB.out))⟩)
        · skip
          refine box_step ?hg (N := 12) ?hd (cs := #[.int .i64 0, .int .i64 0, .int .i64 0]) (t := 28) ?hr ?_; (case hd => rfl); (case hg => rfl); (case hr => first | (go_simp; done) | (go_simp; rfl))
          intro gb160 hg w27 hbox hb
          have n0_ := Aside0.mk (Kd.R_below (Kd.R_elderB (by (with_reducible repeat (first | apply Kd.R_alloc | apply Kd.R_drewN | apply Kd.R_drew)); exact HO149.out) gb160 (Nat.le_of_eq hg.symm)) hb)
          have n1_ := Aside0.mk (Kd.R_below (Kd.R_elderB (by (with_reducible repeat (first | apply Kd.R_alloc | apply Kd.R_drewN | apply Kd.R_drew)); exact HO156.out) gb160 (Nat.le_of_eq hg.symm)) hb)
          have n2_ := Aside0.mk (blk_below (g := gb142) (o := .cells #[.int .i64 a3_0, .int .i64 a3_1, .int .i64 a3_2] 41 (0, 0)) (by (with_reducible repeat (first | refine blk_drewN ?_ _ | refine blk_drew ?_ | refine blk_alloc ?_ _)); exact BK142.out) hb)
          have n3_ := Aside0.mk (blk_below (g := gb150) (o := .cells #[.int .i64 t144, .int .i64 t145, .int .i64 t146, .slice Ao18 t147.length co18] 26 (0, 0)) (by (with_reducible repeat (first | refine blk_drewN ?_ _ | refine blk_drew ?_ | refine blk_alloc ?_ _)); exact BK150.out) hb)
          have n4_ := Aside0.mk (blk_below (g := gb157) (o := .cells #[.int .i64 t151, .int .i64 t152, .int .i64 t153, .slice Ao24 t154.length co24] 26 (0, 0)) (by (with_reducible repeat (first | refine blk_drewN ?_ _ | refine blk_drew ?_ | refine blk_alloc ?_ _)); exact BK157.out) hb)
          have n5_ := Aside0.mk (below_step (by repeat (first | (with_reducible first | exact HB.out | apply below_alloc | apply pw_below_drewN | apply below_drew1 | refine below_set ?_ GE142.out | refine below_set ?_ GE150.out | refine below_set ?_ GE157.out) | exact HB.out)) hb)
          have n6_ := Aside0.mk (hbox)
          have n7_ := Aside0.mk ((by rw [hg]; exact (below_size (by repeat (first | (with_reducible first | exact HB.out | apply below_alloc | apply pw_below_drewN | apply below_drew1 | refine below_set ?_ GE142.out | refine below_set ?_ GE150.out | refine below_set ?_ GE157.out) | exact HB.out))) : w.heap.size ≤ gb160))
          have n8_ := Aside0.mk ((by rw [hg]; exact (below_size (by repeat (first | (with_reducible first | exact HB.out | apply below_alloc | apply pw_below_drewN | apply below_drew1 | refine below_set ?_ GE142.out | refine below_set ?_ GE150.out | refine below_set ?_ GE157.out) | exact HB.out))) : w.heap.size ≤ gb160))
          have n9_ := Aside0.mk ((by rw [hg]; exact Nat.ne_of_lt (blk_lt (g := gb142) (o := .cells #[.int .i64 a3_0, .int .i64 a3_1, .int .i64 a3_2] 41 (0, 0)) (by (with_reducible repeat (first | refine blk_drewN ?_ _ | refine blk_drew ?_ | refine blk_alloc ?_ _)); exact BK142.out)) : gb142 ≠ gb160))
          have n10_ := Aside0.mk ((by rw [hg]; exact Nat.ne_of_gt (blk_lt (g := gb142) (o := .cells #[.int .i64 a3_0, .int .i64 a3_1, .int .i64 a3_2] 41 (0, 0)) (by (with_reducible repeat (first | refine blk_drewN ?_ _ | refine blk_drew ?_ | refine blk_alloc ?_ _)); exact BK142.out)) : gb160 ≠ gb142))
          have n11_ := Aside0.mk ((by rw [hg]; exact Nat.ne_of_lt (blk_lt (g := gb150) (o := .cells #[.int .i64 t144, .int .i64 t145, .int .i64 t146, .slice Ao18 t147.length co18] 26 (0, 0)) (by (with_reducible repeat (first | refine blk_drewN ?_ _ | refine blk_drew ?_ | refine blk_alloc ?_ _)); exact BK150.out)) : gb150 ≠ gb160))
          have n12_ := Aside0.mk ((by rw [hg]; exact Nat.ne_of_gt (blk_lt (g := gb150) (o := .cells #[.int .i64 t144, .int .i64 t145, .int .i64 t146, .slice Ao18 t147.length co18] 26 (0, 0)) (by (with_reducible repeat (first | refine blk_drewN ?_ _ | refine blk_drew ?_ | refine blk_alloc ?_ _)); exact BK150.out)) : gb160 ≠ gb150))
          have n13_ := Aside0.mk ((by rw [hg]; exact Nat.ne_of_lt (blk_lt (g := gb157) (o := .cells #[.int .i64 t151, .int .i64 t152, .int .i64 t153, .slice Ao24 t154.length co24] 26 (0, 0)) (by (with_reducible repeat (first | refine blk_drewN ?_ _ | refine blk_drew ?_ | refine blk_alloc ?_ _)); exact BK157.out)) : gb157 ≠ gb160))
          have n14_ := Aside0.mk ((by rw [hg]; exact Nat.ne_of_gt (blk_lt (g := gb157) (o := .cells #[.int .i64 t151, .int .i64 t152, .int .i64 t153, .slice Ao24 t154.length co24] 26 (0, 0)) (by (with_reducible repeat (first | refine blk_drewN ?_ _ | refine blk_drew ?_ | refine blk_alloc ?_ _)); exact BK157.out)) : gb160 ≠ gb157))
          clear HO149
          clear HO156
          clear BK142
          clear BK150
          clear BK157
          clear HB
          have HO149 := n0_
          have HO156 := n1_
          have BK142 := n2_
          have BK150 := n3_
          have BK157 := n4_
          have HB := n5_
          have BK160 := n6_
          have GW160 := n7_
          have GE160 := n8_
          have NB142_160 := n9_
          have NB160_142 := n10_
          have NB150_160 := n11_
          have NB160_150 := n12_
          have NB157_160 := n13_
          have NB160_157 := n14_
          clear n0_ n1_ n2_ n3_ n4_ n5_ n6_ n7_ n8_ n9_ n10_ n11_ n12_ n13_ n14_
          clear hb hbox hg
          refine hK.out _ _ ⟨(blk_cell BK142.out 0).trans rfl, (blk_cell BK142.out 1).trans rfl, (blk_cell BK142.out 2).trans rfl, (blk_cell BK150.out 0).trans rfl, (blk_cell BK150.out 1).trans rfl, (blk_cell BK150.out 2).trans rfl, (blk_cell BK150.out 3).trans rfl⟩ (fun hHeld => ?_)
          clear hK K
          refine norm_ (a' := ?_) ?_ ?_
          rotate_left
          · show Act.put _ (some 12) _ = _
            simp only [Act.put, List.setIfInBounds_toArray, List.set_cons_zero, List.set_cons_succ, i64_w, i32_w]
            rfl
          refine one_ (i := 4) (N := some 31) #[true, true, true, true, true, false, true, true, true, true, false, false, false, true, false] rfl rfl (one_of HT_.out (by kernel_rfl)) (by decide) (fun K hK => ?_)
          refine goes_ Try.func15 (by kernel_rfl) rfl #[.int .i64 a3_0, .int .i64 t144] (by rfl) rfl rfl (by (try simp only [List.map_toArray, List.map_cons, List.map_nil]); first | done | rfl | (simp only [List.length_drop, List.length_take]; rfl)) ?_
          with_reducible refine (racewaylaw3_pick.calls a3_0 t144 t158 _ A9.out).mono ?_
          rintro e w' ⟨rfl, ⟨nd, rfl⟩⟩
          refine ⟨_, rfl, ?_⟩
          refine hK.out _ _ ⟨(blk_cell BK142.out 0).trans rfl, (blk_cell BK142.out 1).trans rfl, (blk_cell BK142.out 2).trans rfl, (blk_cell BK150.out 0).trans rfl, (blk_cell BK150.out 1).trans rfl, (blk_cell BK150.out 2).trans rfl, (blk_cell BK150.out 3).trans rfl⟩ (fun hHeld => ?_)
          clear hK K
          refine norm_ (a' := ?_) ?_ ?_
          rotate_left
          · show Act.put _ (some 31) _ = _
            simp only [Act.put, List.setIfInBounds_toArray, List.set_cons_zero, List.set_cons_succ, i64_w, i32_w]
            rfl
          refine pure_ (i := 5) (N := some 32) (v := ?_) (a' := ?_) #[true, true, true, true, true, true, true, true, true, true, false, false, false, true, false] rfl rfl (any_of HT_.out (by kernel_rfl)) (fun _ _ _ h => h) (Or.inl ⟨by rfl, ?_⟩) ?_ ?_
          rotate_left
          · intro w'
            go_simp
            with_reducible rfl
          rotate_left
          · simp only [Act.put, List.setIfInBounds_toArray, List.set_cons_zero, List.set_cons_succ, i64_w, i32_w]
            rfl
          refine one_ (i := 10) (N := some 37) #[true, true, true, true, true, true, true, true, true, true, true, false, false, true, false] rfl rfl (one_of HT_.out (by kernel_rfl)) (by decide) (fun K hK => ?_)
          refine goes_ Try.func15 (by kernel_rfl) rfl #[.int .i64 a3_1, .int .i64 t144] (by rfl) rfl rfl (by (try simp only [List.map_toArray, List.map_cons, List.map_nil]); first | done | rfl | (simp only [List.length_drop, List.length_take]; rfl)) ?_
          with_reducible refine (racewaylaw3_pick.calls a3_1 t144 t159 _ A10.out).mono ?_
          rintro e w' ⟨rfl, ⟨nd, rfl⟩⟩
          refine ⟨_, rfl, ?_⟩
          refine hK.out _ _ ⟨(blk_cell BK142.out 0).trans rfl, (blk_cell BK142.out 1).trans rfl, (blk_cell BK142.out 2).trans rfl, (blk_cell BK150.out 0).trans rfl, (blk_cell BK150.out 1).trans rfl, (blk_cell BK150.out 2).trans rfl, (blk_cell BK150.out 3).trans rfl⟩ (fun hHeld => ?_)
          clear hK K
          refine norm_ (a' := ?_) ?_ ?_
          rotate_left
          · show Act.put _ (some 37) _ = _
            simp only [Act.put, List.setIfInBounds_toArray, List.set_cons_zero, List.set_cons_succ, i64_w, i32_w]
            rfl
          refine pure_ (i := 11) (N := some 38) (v := ?_) (a' := ?_) #[true, true, true, true, true, true, true, true, true, true, true, true, false, true, false] rfl rfl (any_of HT_.out (by kernel_rfl)) (fun _ _ _ h => h) (Or.inl ⟨by rfl, ?_⟩) ?_ ?_
          rotate_left
          · intro w'
            go_simp
            with_reducible rfl
          rotate_left
          · simp only [Act.put, List.setIfInBounds_toArray, List.set_cons_zero, List.set_cons_succ, i64_w, i32_w]
            rfl
          refine pure_ (i := 12) (N := some 39) (v := ?_) (a' := ?_) #[true, true, true, true, true, true, true, true, true, true, true, true, true, true, false] rfl rfl (any_of HT_.out (by kernel_rfl)) (fun _ _ _ h => h) (Or.inl ⟨by rfl, ?_⟩) ?_ ?_
          rotate_left
          · intro w'
            go_simp
            with_reducible rfl
          rotate_left
          · simp only [Act.put, List.setIfInBounds_toArray, List.set_cons_zero, List.set_cons_succ, i64_w, i32_w]
            rfl
          exact norm_ (by simp only [putAll, Act.put, List.setIfInBounds_toArray, List.set_cons_zero, List.set_cons_succ]) (hCont (gb160) _ ⟨hHeld, (by (with_reducible repeat (first | apply Kd.R_alloc | apply Kd.R_drewN | apply Kd.R_drew)); exact HO149.out), (by (with_reducible repeat (first | apply Kd.R_alloc | apply Kd.R_drewN | apply Kd.R_drew)); exact HO156.out), (by (with_reducible repeat (first | refine blk_drewN ?_ _ | refine blk_drew ?_ | refine blk_alloc ?_ _)); exact BK142.out), (by (with_reducible repeat (first | refine blk_drewN ?_ _ | refine blk_drew ?_ | refine blk_alloc ?_ _)); exact BK150.out), (by (with_reducible repeat (first | refine blk_drewN ?_ _ | refine blk_drew ?_ | refine blk_alloc ?_ _)); exact BK157.out), (by (with_reducible repeat (first | refine blk_drewN ?_ _ | refine blk_drew ?_ | refine blk_alloc ?_ _)); exact BK160.out), GW160.out, GE160.out, NB142_160.out, NB160_142.out, NB150_160.out, NB160_150.out, NB157_160.out, NB160_157.out, (by repeat (first | (with_reducible first | exact HB.out | apply below_alloc | apply pw_below_drewN | apply below_drew1 | refine below_set ?_ GE142.out | refine below_set ?_ GE150.out | refine below_set ?_ GE157.out | refine below_set ?_ GE160.out) | exact HB.out))⟩)
      rintro gb160 w28 ⟨hS_, h0_, h1_, h2_, h3_, h4_, h5_, h6_, h7_, h8_, h9_, h10_, h11_, h12_, h13_, h14_⟩
      have n0_ : Aside0 (Kd.R k28 28 w28 w.heap.size (fun k_ => some k_ ≠ (.slice Ao24 t154.length co24 : Value).ownBlock ∧ k_ ≠ gb160) (.slice Ao18 t147.length co18) t147) := ⟨h0_⟩
      have n1_ : Aside0 (Kd.R k28 28 w28 w.heap.size (fun k_ => some k_ ≠ (.slice Ao18 t147.length co18 : Value).ownBlock ∧ k_ ≠ gb160) (.slice Ao24 t154.length co24) t154) := ⟨h1_⟩
      have n2_ : Aside0 (w28.heap[gb142]? = some (.cells #[.int .i64 a3_0, .int .i64 a3_1, .int .i64 a3_2] 41 (0, 0))) := ⟨h2_⟩
      have n3_ : Aside0 (w28.heap[gb150]? = some (.cells #[.int .i64 t144, .int .i64 t145, .int .i64 t146, .slice Ao18 t147.length co18] 26 (0, 0))) := ⟨h3_⟩
      have n4_ : Aside0 (w28.heap[gb157]? = some (.cells #[.int .i64 t151, .int .i64 t152, .int .i64 t153, .slice Ao24 t154.length co24] 26 (0, 0))) := ⟨h4_⟩
      have n5_ : Aside0 (w28.heap[gb160]? = some (.cells #[.int .i64 0, .int .i64 0, .int .i64 0] 28 (0, 0))) := ⟨h5_⟩
      have n6_ : Aside0 (w.heap.size ≤ gb160) := ⟨h6_⟩
      have n7_ : Aside0 (w.heap.size ≤ gb160) := ⟨h7_⟩
      have n8_ : Aside0 (gb142 ≠ gb160) := ⟨h8_⟩
      have n9_ : Aside0 (gb160 ≠ gb142) := ⟨h9_⟩
      have n10_ : Aside0 (gb150 ≠ gb160) := ⟨h10_⟩
      have n11_ : Aside0 (gb160 ≠ gb150) := ⟨h11_⟩
      have n12_ : Aside0 (gb157 ≠ gb160) := ⟨h12_⟩
      have n13_ : Aside0 (gb160 ≠ gb157) := ⟨h13_⟩
      have n14_ : Aside0 (Below w.heap.size w w28) := ⟨h14_⟩
      clear HO149
      clear HO156
      clear BK142
      clear BK150
      clear BK157
      clear HB
      clear h0_ h1_ h2_ h3_ h4_ h5_ h6_ h7_ h8_ h9_ h10_ h11_ h12_ h13_ h14_
      have HO149 := n0_
      have HO156 := n1_
      have BK142 := n2_
      have BK150 := n3_
      have BK157 := n4_
      have BK160 := n5_
      have GW160 := n6_
      have GE160 := n7_
      have NB142_160 := n8_
      have NB160_142 := n9_
      have NB150_160 := n10_
      have NB160_150 := n11_
      have NB157_160 := n12_
      have NB160_157 := n13_
      have HB := n14_
      clear n0_ n1_ n2_ n3_ n4_ n5_ n6_ n7_ n8_ n9_ n10_ n11_ n12_ n13_ n14_
      have hHeld : w28.cell? ⟨gb142, 0, none⟩ = some (.int .i64 a3_0) ∧ w28.cell? ⟨gb142, 1, none⟩ = some (.int .i64 a3_1) ∧ w28.cell? ⟨gb142, 2, none⟩ = some (.int .i64 a3_2) ∧ w28.cell? ⟨gb150, 0, none⟩ = some (.int .i64 t144) ∧ w28.cell? ⟨gb150, 1, none⟩ = some (.int .i64 t145) ∧ w28.cell? ⟨gb150, 2, none⟩ = some (.int .i64 t146) ∧ w28.cell? ⟨gb150, 3, none⟩ = some (.slice Ao18 t147.length co18) := hS_
      refine norm_ (a' := ?_) ?_ ?_
      rotate_left
      · simp only [putAll, Act.put, List.setIfInBounds_toArray, List.set_cons_zero, List.set_cons_succ]
        rfl
      refine one_ (i := 14) (N := none) #[true, true, true, true, true, true, true, true, true, true, true, true, true, true, true] rfl rfl (one_of HT_.out (by kernel_rfl)) (by decide) (fun K hK => ?_)
      have hs29 : w28.cell? ⟨gb160, 0, none⟩ = some (.int .i64 0) := (blk_cell BK160.out 0).trans rfl
      have hfs29 := blk_frozen BK160.out 0
      have hns29_0 := NB142_160.out
      have hns29_1 := NB150_160.out
      have hns29_2 := NB157_160.out
      have hms29_0 := NB160_142.out
      have hms29_1 := NB160_150.out
      have hms29_2 := NB160_157.out
      have hs30 : w28.cell? ⟨gb160, 1, none⟩ = some (.int .i64 0) := (blk_cell BK160.out 1).trans rfl
      have hfs30 := blk_frozen BK160.out 1
      have hns30_0 := NB142_160.out
      have hns30_1 := NB150_160.out
      have hns30_2 := NB157_160.out
      have hms30_0 := NB160_142.out
      have hms30_1 := NB160_150.out
      have hms30_2 := NB160_157.out
      have hs31 : w28.cell? ⟨gb160, 2, none⟩ = some (.int .i64 0) := (blk_cell BK160.out 2).trans rfl
      have hfs31 := blk_frozen BK160.out 2
      have hns31_0 := NB142_160.out
      have hns31_1 := NB150_160.out
      have hns31_2 := NB157_160.out
      have hms31_0 := NB160_142.out
      have hms31_1 := NB160_150.out
      have hms31_2 := NB160_157.out
      refine skip_ (w1 := ?_) (by rfl) rfl ?_ ?_
      rotate_left
      · go_simp
        rfl
      refine hK.out _ _ ⟨((cell_far (p := ⟨gb160, _, none⟩) NB142_160.out _).trans (((cell_far (p := ⟨gb160, _, none⟩) NB142_160.out _).trans (((cell_far (p := ⟨gb160, _, none⟩) NB142_160.out _).trans (hHeld.1)))))), ((cell_far (p := ⟨gb160, _, none⟩) NB142_160.out _).trans (((cell_far (p := ⟨gb160, _, none⟩) NB142_160.out _).trans (((cell_far (p := ⟨gb160, _, none⟩) NB142_160.out _).trans (hHeld.2.1)))))), ((cell_far (p := ⟨gb160, _, none⟩) NB142_160.out _).trans (((cell_far (p := ⟨gb160, _, none⟩) NB142_160.out _).trans (((cell_far (p := ⟨gb160, _, none⟩) NB142_160.out _).trans (hHeld.2.2.1)))))), ((cell_far (p := ⟨gb160, _, none⟩) NB150_160.out _).trans (((cell_far (p := ⟨gb160, _, none⟩) NB150_160.out _).trans (((cell_far (p := ⟨gb160, _, none⟩) NB150_160.out _).trans (hHeld.2.2.2.1)))))), ((cell_far (p := ⟨gb160, _, none⟩) NB150_160.out _).trans (((cell_far (p := ⟨gb160, _, none⟩) NB150_160.out _).trans (((cell_far (p := ⟨gb160, _, none⟩) NB150_160.out _).trans (hHeld.2.2.2.2.1)))))), ((cell_far (p := ⟨gb160, _, none⟩) NB150_160.out _).trans (((cell_far (p := ⟨gb160, _, none⟩) NB150_160.out _).trans (((cell_far (p := ⟨gb160, _, none⟩) NB150_160.out _).trans (hHeld.2.2.2.2.2.1)))))), ((cell_far (p := ⟨gb160, _, none⟩) NB150_160.out _).trans (((cell_far (p := ⟨gb160, _, none⟩) NB150_160.out _).trans (((cell_far (p := ⟨gb160, _, none⟩) NB150_160.out _).trans (hHeld.2.2.2.2.2.2))))))⟩ (fun hHeld => ?_)
      clear hK K
      refine done_ (done_of HT_.out (by kernel_rfl)) ?_
      have hnb32 := NB157_160.out
      have hnc32 := NB160_157.out
      have hcz33_0 : w28.cell? ⟨gb157, 0, none⟩ = some (.int .i64 t151) := (blk_cell BK157.out 0).trans rfl
      have hcz33_1 : w28.cell? ⟨gb157, 1, none⟩ = some (.int .i64 t152) := (blk_cell BK157.out 1).trans rfl
      have hcz33_2 : w28.cell? ⟨gb157, 2, none⟩ = some (.int .i64 t153) := (blk_cell BK157.out 2).trans rfl
      have hcz33_3 : w28.cell? ⟨gb157, 3, none⟩ = some (.slice Ao24 t154.length co24) := (blk_cell BK157.out 3).trans rfl
      have hfz33_0 := blk_frozen BK157.out 0
      have hfz33_1 := blk_frozen BK157.out 1
      have hfz33_2 := blk_frozen BK157.out 2
      have hfz33_3 := blk_frozen BK157.out 3
      have hnb34 := NB160_142.out
      have hnc34 := NB142_160.out
      have hnb35 := NB160_150.out
      have hnc35 := NB150_160.out
      have hcz36_0 : w28.cell? ⟨gb160, 0, none⟩ = some (.int .i64 0) := (blk_cell BK160.out 0).trans rfl
      have hcz36_1 : w28.cell? ⟨gb160, 1, none⟩ = some (.int .i64 0) := (blk_cell BK160.out 1).trans rfl
      have hcz36_2 : w28.cell? ⟨gb160, 2, none⟩ = some (.int .i64 0) := (blk_cell BK160.out 2).trans rfl
      have hfz36_0 := blk_frozen BK160.out 0
      have hfz36_1 := blk_frozen BK160.out 1
      have hfz36_2 := blk_frozen BK160.out 2
      try go_wp2_with (first | ((with_reducible refine gate_builtin (b := .append) (xs := #[.tmp 41, .tmp 43]) rfl ?_); at_builtin; refine Kd.R_append k28 (w0 := w) w.heap.size rfl (.tmp 41) (.tmp 43) 24 28 (.agg #[(.int .i64 0), (.int .i64 0), (.int .i64 0)]) 24 rfl Try.underlying24 info28 rfl (by decide) (by omega) (.slice Ao24 t154.length co24) t154 (⟨wrap64 (1 + t158), wrap64 (1 + t159), 1⟩ : S28) [.int .i64 (wrap64 (1 + t158)), .int .i64 (wrap64 (1 + t159)), .int .i64 1] (fun k_ => some k_ ≠ (.slice Ao18 t147.length co18 : Value).ownBlock ∧ k_ ≠ gb160) (fun _ => False) rfl (by first | (go_simp; done) | (go_simp; rfl)) ?aP (fun _ hk => hk.elim) ?aF ?aO ?aB ?aS ?aL ?_; (case aP => exact k28_mkM _ _ _ (⟨wrap64 (1 + t158), wrap64 (1 + t159), 1⟩ : S28)); (case aB => exact (by repeat (first | (with_reducible first | exact HB.out | apply below_alloc | apply pw_below_drewN | apply below_drew1 | refine below_set ?_ GE142.out | refine below_set ?_ GE150.out | refine below_set ?_ GE157.out | refine below_set ?_ GE160.out) | exact HB.out))); (case aF => exact (fun k_ hk => ⟨Kd.fresh' (Kd.R_lt (by (with_reducible repeat (first | apply Kd.R_alloc | apply Kd.R_drewN | apply Kd.R_drew)); exact (Kd.R_mono (Kd.R_far (p := ⟨gb160, 2, none⟩) (Kd.R_far (p := ⟨gb160, 1, none⟩) (Kd.R_far (p := ⟨gb160, 0, none⟩) (Kd.R_mono HO149.out (fun k_ hk => (⟨hk, hk.2⟩ : _ ∧ k_ ≠ gb160))) (fun _ hk => hk.2) (.int .i64 (wrap64 (1 + t158)))) (fun _ hk => hk.2) (.int .i64 (wrap64 (1 + t159)))) (fun _ hk => hk.2) (.int .i64 1)) (fun _ h_ => h_.1)))) k_ hk, Kd.freshB (g := gb160) (o := .cells #[.int .i64 (wrap64 (1 + t158)), .int .i64 (wrap64 (1 + t159)), .int .i64 1] 28 (0, 0)) (by (with_reducible repeat (first | refine blk_drewN ?_ _ | refine blk_drew ?_ | refine blk_alloc ?_ _)); refine blk_put (cs := #[.int .i64 (wrap64 (1 + t158)), .int .i64 (wrap64 (1 + t159)), .int .i64 0]) ?_ 2 _ rfl; (with_reducible repeat (first | refine blk_drewN ?_ _ | refine blk_drew ?_ | refine blk_alloc ?_ _)); refine blk_put (cs := #[.int .i64 (wrap64 (1 + t158)), .int .i64 0, .int .i64 0]) ?_ 1 _ rfl; (with_reducible repeat (first | refine blk_drewN ?_ _ | refine blk_drew ?_ | refine blk_alloc ?_ _)); refine blk_put (cs := #[.int .i64 0, .int .i64 0, .int .i64 0]) ?_ 0 _ rfl; (with_reducible repeat (first | refine blk_drewN ?_ _ | refine blk_drew ?_ | refine blk_alloc ?_ _)); exact BK160.out) k_ hk⟩)); (case aO => exact (by (with_reducible repeat (first | apply Kd.R_alloc | apply Kd.R_drewN | apply Kd.R_drew)); exact Kd.R_mono (Kd.R_far (p := ⟨gb160, 2, none⟩) (Kd.R_far (p := ⟨gb160, 1, none⟩) (Kd.R_far (p := ⟨gb160, 0, none⟩) (Kd.R_mono HO156.out (fun k_ hk => (⟨hk, hk.2⟩ : _ ∧ k_ ≠ gb160))) (fun _ hk => hk.2) (.int .i64 (wrap64 (1 + t158)))) (fun _ hk => hk.2) (.int .i64 (wrap64 (1 + t159)))) (fun _ hk => hk.2) (.int .i64 1)) (fun _ hk => ⟨hk.1.1, hk.1.2⟩))); (case aS => exact (below_size (by repeat (first | (with_reducible first | exact HB.out | apply below_alloc | apply pw_below_drewN | apply below_drew1 | refine below_set ?_ GE142.out | refine below_set ?_ GE150.out | refine below_set ?_ GE157.out | refine below_set ?_ GE160.out) | exact HB.out)))); (case aL => have := LMc11.out; omega); intro v162 w37 ho hb hg hat; rw [← Ny161.out] at ho; have n0_ := Aside0.mk (blk_grown (g := gb142) (o := .cells #[.int .i64 a3_0, .int .i64 a3_1, .int .i64 a3_2] 41 (0, 0)) (by (with_reducible repeat (first | refine blk_drewN ?_ _ | refine blk_drew ?_ | refine blk_alloc ?_ _)); refine blk_far ?_ NB142_160.out _; (with_reducible repeat (first | refine blk_drewN ?_ _ | refine blk_drew ?_ | refine blk_alloc ?_ _)); refine blk_far ?_ NB142_160.out _; (with_reducible repeat (first | refine blk_drewN ?_ _ | refine blk_drew ?_ | refine blk_alloc ?_ _)); refine blk_far ?_ NB142_160.out _; (with_reducible repeat (first | refine blk_drewN ?_ _ | refine blk_drew ?_ | refine blk_alloc ?_ _)); exact BK142.out) hg (Kd.R_ne HO156.out BK142.out (by decide))); have n1_ := Aside0.mk (Kd.R_after (ok := (fun k_ => k_ ≠ gb160)) (by (with_reducible repeat (first | apply Kd.R_alloc | apply Kd.R_drewN | apply Kd.R_drew)); exact Kd.R_mono (Kd.R_far (p := ⟨gb160, 2, none⟩) (Kd.R_far (p := ⟨gb160, 1, none⟩) (Kd.R_far (p := ⟨gb160, 0, none⟩) (Kd.R_mono HO149.out (fun k_ hk => (⟨hk, hk.2⟩ : _ ∧ k_ ≠ gb160))) (fun _ hk => hk.2) (.int .i64 (wrap64 (1 + t158)))) (fun _ hk => hk.2) (.int .i64 (wrap64 (1 + t159)))) (fun _ hk => hk.2) (.int .i64 1)) (fun _ hk => ⟨hk.1.2, hk.1.1⟩)) hg hat); have n2_ := Aside0.mk (blk_grown (g := gb150) (o := .cells #[.int .i64 t144, .int .i64 t145, .int .i64 t146, .slice Ao18 t147.length co18] 26 (0, 0)) (by (with_reducible repeat (first | refine blk_drewN ?_ _ | refine blk_drew ?_ | refine blk_alloc ?_ _)); refine blk_far ?_ NB150_160.out _; (with_reducible repeat (first | refine blk_drewN ?_ _ | refine blk_drew ?_ | refine blk_alloc ?_ _)); refine blk_far ?_ NB150_160.out _; (with_reducible repeat (first | refine blk_drewN ?_ _ | refine blk_drew ?_ | refine blk_alloc ?_ _)); refine blk_far ?_ NB150_160.out _; (with_reducible repeat (first | refine blk_drewN ?_ _ | refine blk_drew ?_ | refine blk_alloc ?_ _)); exact BK150.out) hg (Kd.R_ne HO156.out BK150.out (by decide))); have n3_ := Aside0.mk (blk_grown (g := gb157) (o := .cells #[.int .i64 t151, .int .i64 t152, .int .i64 t153, .slice Ao24 t154.length co24] 26 (0, 0)) (by (with_reducible repeat (first | refine blk_drewN ?_ _ | refine blk_drew ?_ | refine blk_alloc ?_ _)); refine blk_far ?_ NB157_160.out _; (with_reducible repeat (first | refine blk_drewN ?_ _ | refine blk_drew ?_ | refine blk_alloc ?_ _)); refine blk_far ?_ NB157_160.out _; (with_reducible repeat (first | refine blk_drewN ?_ _ | refine blk_drew ?_ | refine blk_alloc ?_ _)); refine blk_far ?_ NB157_160.out _; (with_reducible repeat (first | refine blk_drewN ?_ _ | refine blk_drew ?_ | refine blk_alloc ?_ _)); exact BK157.out) hg (Kd.R_ne HO156.out BK157.out (by decide))); have n4_ := Aside0.mk (blk_grown (g := gb160) (o := .cells #[.int .i64 (wrap64 (1 + t158)), .int .i64 (wrap64 (1 + t159)), .int .i64 1] 28 (0, 0)) (by (with_reducible repeat (first | refine blk_drewN ?_ _ | refine blk_drew ?_ | refine blk_alloc ?_ _)); refine blk_put (cs := #[.int .i64 (wrap64 (1 + t158)), .int .i64 (wrap64 (1 + t159)), .int .i64 0]) ?_ 2 _ rfl; (with_reducible repeat (first | refine blk_drewN ?_ _ | refine blk_drew ?_ | refine blk_alloc ?_ _)); refine blk_put (cs := #[.int .i64 (wrap64 (1 + t158)), .int .i64 0, .int .i64 0]) ?_ 1 _ rfl; (with_reducible repeat (first | refine blk_drewN ?_ _ | refine blk_drew ?_ | refine blk_alloc ?_ _)); refine blk_put (cs := #[.int .i64 0, .int .i64 0, .int .i64 0]) ?_ 0 _ rfl; (with_reducible repeat (first | refine blk_drewN ?_ _ | refine blk_drew ?_ | refine blk_alloc ?_ _)); exact BK160.out) hg (Kd.R_away HO156.out (fun _ hk => hk.2))); have n5_ := Aside0.mk (hb); have n6_ := Aside0.mk (ho); clear BK142; clear HO149; clear BK150; clear BK157; clear BK160; clear HB; clear HO156; have BK142 := n0_; have HO149 := n1_; have BK150 := n2_; have BK157 := n3_; have BK160 := n4_; have HB := n5_; have HO163 := n6_; clear n0_ n1_ n2_ n3_ n4_ n5_ n6_; clear ho hb hg hat; obtain ⟨Ao38, co38, eo38⟩ := Kd.R_slice HO163.out; subst eo38; have hcz39_0 : w37.cell? ⟨gb157, 0, none⟩ = some (.int .i64 t151) := (blk_cell BK157.out 0).trans rfl; have hcz39_1 : w37.cell? ⟨gb157, 1, none⟩ = some (.int .i64 t152) := (blk_cell BK157.out 1).trans rfl; have hcz39_2 : w37.cell? ⟨gb157, 2, none⟩ = some (.int .i64 t153) := (blk_cell BK157.out 2).trans rfl; have hcz39_3 : w37.cell? ⟨gb157, 3, none⟩ = some (.slice Ao24 t154.length co24) := (blk_cell BK157.out 3).trans rfl; have hfz39_0 := blk_frozen BK157.out 0; have hfz39_1 := blk_frozen BK157.out 1; have hfz39_2 := blk_frozen BK157.out 2; have hfz39_3 := blk_frozen BK157.out 3))
      go_loopg [13] k (fun kq v13 w' => ∃ (x13_1 : Int), v13 = .int .i64 x13_1 ∧ Aside0 (racewaylaw3_NetDegrees.l0 kq x13_1 t144 t145 t146 t147 t151 t152 t153 y161 (wrap64 (1 + t158)) (wrap64 (1 + t159)) 1 = some r) ∧ Aside0 (kq ≤ k) ∧ Aside0 (Kd.R k28 28 w' w.heap.size (fun k_ => some k_ ≠ ((.slice Ao38 y161.length co38) : Value).ownBlock ∧ k_ ≠ gb160) (.slice Ao18 t147.length co18) t147) ∧ Aside0 (Kd.R k28 28 w' w.heap.size (fun k_ => some k_ ≠ ((.slice Ao18 t147.length co18) : Value).ownBlock ∧ k_ ≠ gb160) (.slice Ao38 y161.length co38) y161) ∧ Aside0 (w'.heap[gb142]? = some (.cells #[.int .i64 a3_0, .int .i64 a3_1, .int .i64 a3_2] 41 (0, 0))) ∧ Aside0 (w'.heap[gb150]? = some (.cells #[.int .i64 t144, .int .i64 t145, .int .i64 t146, (.slice Ao18 t147.length co18)] 26 (0, 0))) ∧ Aside0 (w'.heap[gb157]? = some (.cells #[.int .i64 t151, .int .i64 t152, .int .i64 t153, (.slice Ao38 y161.length co38)] 26 (0, 0))) ∧ Aside0 (w'.heap[gb160]? = some (.cells #[.int .i64 (wrap64 (1 + t158)), .int .i64 (wrap64 (1 + t159)), .int .i64 1] 28 (0, 0))) ∧ Aside0 (Below w.heap.size w w'))
      case atStart => exact ⟨(1), (by first | rfl | (simp; done) | (simp [*]; done)), H', ⟨Nat.le_refl _⟩, ⟨by (with_reducible repeat (first | apply Kd.R_alloc | apply Kd.R_drewN | apply Kd.R_drew)); exact Kd.R_mono (Kd.R_far (p := ⟨gb157, 3, none⟩) (Kd.R_types HO149.out BK157.out (by decide)) (fun _ hk => hk.2) (.slice Ao38 y161.length co38)) (fun _ hk => ⟨hk.1.2, hk.1.1⟩)⟩, ⟨by (with_reducible repeat (first | apply Kd.R_alloc | apply Kd.R_drewN | apply Kd.R_drew)); exact Kd.R_mono (Kd.R_far (p := ⟨gb157, 3, none⟩) (Kd.R_types HO163.out BK157.out (by decide)) (fun _ hk => hk.2) (.slice Ao38 y161.length co38)) (fun _ hk => ⟨hk.1.1, hk.1.2⟩)⟩, ⟨by (with_reducible repeat (first | refine blk_drewN ?_ _ | refine blk_drew ?_ | refine blk_alloc ?_ _)); refine blk_far ?_ NB142_157.out _; (with_reducible repeat (first | refine blk_drewN ?_ _ | refine blk_drew ?_ | refine blk_alloc ?_ _)); exact BK142.out⟩, ⟨by (with_reducible repeat (first | refine blk_drewN ?_ _ | refine blk_drew ?_ | refine blk_alloc ?_ _)); refine blk_far ?_ NB150_157.out _; (with_reducible repeat (first | refine blk_drewN ?_ _ | refine blk_drew ?_ | refine blk_alloc ?_ _)); exact BK150.out⟩, ⟨by (with_reducible repeat (first | refine blk_drewN ?_ _ | refine blk_drew ?_ | refine blk_alloc ?_ _)); refine blk_put (cs := #[.int .i64 t151, .int .i64 t152, .int .i64 t153, .slice Ao24 t154.length co24]) ?_ 3 _ rfl; (with_reducible repeat (first | refine blk_drewN ?_ _ | refine blk_drew ?_ | refine blk_alloc ?_ _)); exact BK157.out⟩, ⟨by (with_reducible repeat (first | refine blk_drewN ?_ _ | refine blk_drew ?_ | refine blk_alloc ?_ _)); refine blk_far ?_ NB160_157.out _; (with_reducible repeat (first | refine blk_drewN ?_ _ | refine blk_drew ?_ | refine blk_alloc ?_ _)); exact BK160.out⟩, ⟨by repeat (first | (with_reducible first | exact HB.out | apply below_alloc | apply pw_below_drewN | apply below_drew1 | refine below_set ?_ GE142.out | refine below_set ?_ GE150.out | refine below_set ?_ GE157.out | refine below_set ?_ GE160.out) | exact HB.out)⟩⟩
      case round =>
        clear H'
        try clear c1
        try clear c2
        try clear p2
        try clear c3
        try clear c6
        try clear p6
        try clear c7
        try clear c11
        try clear c14
        try clear c15
        try clear c16
        try clear c17
        try clear c18
        try clear c21
        try clear c22
        try clear c32
        try clear c34
        try clear c35
        try clear hcz17_0
        try clear hcz17_1
        try clear hcz17_2
        try clear hcz17_3
        try clear hcz23_0
        try clear hcz23_1
        try clear hcz23_2
        try clear hcz23_3
        try clear hcz33_0
        try clear hcz33_1
        try clear hcz33_2
        try clear hcz33_3
        try clear hcz36_0
        try clear hcz36_1
        try clear hcz36_2
        try clear hcz39_0
        try clear hcz39_1
        try clear hcz39_2
        try clear hcz39_3
        try clear hfz17_0
        try clear hfz17_1
        try clear hfz17_2
        try clear hfz17_3
        try clear hfz23_0
        try clear hfz23_1
        try clear hfz23_2
        try clear hfz23_3
        try clear hfz33_0
        try clear hfz33_1
        try clear hfz33_2
        try clear hfz33_3
        try clear hfz36_0
        try clear hfz36_1
        try clear hfz36_2
        try clear hfz39_0
        try clear hfz39_1
        try clear hfz39_2
        try clear hfz39_3
        obtain ⟨x13_1, rfl, HA, HK1, HO_151003, HO_158003, BK142, BK150, BK157, BK160, HB⟩ := hrel
        cases gk with
        | zero => exact absurd HA.out (by simp [racewaylaw3_NetDegrees.l0])
        | succ k1 =>
          have H := HA.out
          clear HA
          simp only [racewaylaw3_NetDegrees.l0] at H
          by_cases c40 : x13_1 ≤ t144
          · rw [if_pos c40] at H
            have c40b0 : decide (x13_1 ≤ t144) = true := decide_eq_true c40
            clear c40
            replace H := Option.bind_eq_some_iff.mp H
            obtain ⟨t164, A410, H⟩ := H
            replace H : ((net_In.f t151 t152 t153 y161 x13_1).bind fun t167 => ((net_Out.f t144 t145 t146 t147 x13_1).bind fun t170 => ((net_In.f t144 t145 t146 t147 x13_1).bind fun t173 => (if x13_1 = (wrap64 (1 + t158)) then (if t170.length < 17592186044416 then (racewaylaw3_NetDegrees.j1 k1 x13_1 t164 t167 (t170 ++ [(t147.length : Int)]) t173 t144 t145 t146 t147 t151 t152 t153 y161 (wrap64 (1 + t158)) (wrap64 (1 + t159)) 1) else (none)) else (racewaylaw3_NetDegrees.j1 k1 x13_1 t164 t167 t170 t173 t144 t145 t146 t147 t151 t152 t153 y161 (wrap64 (1 + t158)) (wrap64 (1 + t159)) 1))))) = some r := H
            have A41 := Aside0.mk A410
            clear A410
            replace H := Option.bind_eq_some_iff.mp H
            obtain ⟨t167, A420, H⟩ := H
            replace H : ((net_Out.f t144 t145 t146 t147 x13_1).bind fun t170 => ((net_In.f t144 t145 t146 t147 x13_1).bind fun t173 => (if x13_1 = (wrap64 (1 + t158)) then (if t170.length < 17592186044416 then (racewaylaw3_NetDegrees.j1 k1 x13_1 t164 t167 (t170 ++ [(t147.length : Int)]) t173 t144 t145 t146 t147 t151 t152 t153 y161 (wrap64 (1 + t158)) (wrap64 (1 + t159)) 1) else (none)) else (racewaylaw3_NetDegrees.j1 k1 x13_1 t164 t167 t170 t173 t144 t145 t146 t147 t151 t152 t153 y161 (wrap64 (1 + t158)) (wrap64 (1 + t159)) 1)))) = some r := H
            have A42 := Aside0.mk A420
            clear A420
            replace H := Option.bind_eq_some_iff.mp H
            obtain ⟨t170, A430, H⟩ := H
            replace H : ((net_In.f t144 t145 t146 t147 x13_1).bind fun t173 => (if x13_1 = (wrap64 (1 + t158)) then (if t170.length < 17592186044416 then (racewaylaw3_NetDegrees.j1 k1 x13_1 t164 t167 (t170 ++ [(t147.length : Int)]) t173 t144 t145 t146 t147 t151 t152 t153 y161 (wrap64 (1 + t158)) (wrap64 (1 + t159)) 1) else (none)) else (racewaylaw3_NetDegrees.j1 k1 x13_1 t164 t167 t170 t173 t144 t145 t146 t147 t151 t152 t153 y161 (wrap64 (1 + t158)) (wrap64 (1 + t159)) 1))) = some r := H
            have A43 := Aside0.mk A430
            clear A430
            replace H := Option.bind_eq_some_iff.mp H
            obtain ⟨t173, A440, H⟩ := H
            replace H : (if x13_1 = (wrap64 (1 + t158)) then (if t170.length < 17592186044416 then (racewaylaw3_NetDegrees.j1 k1 x13_1 t164 t167 (t170 ++ [(t147.length : Int)]) t173 t144 t145 t146 t147 t151 t152 t153 y161 (wrap64 (1 + t158)) (wrap64 (1 + t159)) 1) else (none)) else (racewaylaw3_NetDegrees.j1 k1 x13_1 t164 t167 t170 t173 t144 t145 t146 t147 t151 t152 t153 y161 (wrap64 (1 + t158)) (wrap64 (1 + t159)) 1)) = some r := H
            have A44 := Aside0.mk A440
            clear A440
            have HC45 := Aside0.mk H
            clear H
            have hnb46 := NB150_142.out
            have hnc46 := NB142_150.out
            have hnb47 := NB150_157.out
            have hnc47 := NB157_150.out
            have hnb48 := NB150_160.out
            have hnc48 := NB160_150.out
            have hcz49_0 : wr.cell? ⟨gb150, 0, none⟩ = some (.int .i64 t144) := (blk_cell BK150.out 0).trans rfl
            have hcz49_1 : wr.cell? ⟨gb150, 1, none⟩ = some (.int .i64 t145) := (blk_cell BK150.out 1).trans rfl
            have hcz49_2 : wr.cell? ⟨gb150, 2, none⟩ = some (.int .i64 t146) := (blk_cell BK150.out 2).trans rfl
            have hcz49_3 : wr.cell? ⟨gb150, 3, none⟩ = some (.slice Ao18 t147.length co18) := (blk_cell BK150.out 3).trans rfl
            have hfz49_0 := blk_frozen BK150.out 0
            have hfz49_1 := blk_frozen BK150.out 1
            have hfz49_2 := blk_frozen BK150.out 2
            have hfz49_3 := blk_frozen BK150.out 3
            have hnb50 := NB157_142.out
            have hnc50 := NB142_157.out
            have hnb51 := NB157_160.out
            have hnc51 := NB160_157.out
            have hcz52_0 : wr.cell? ⟨gb157, 0, none⟩ = some (.int .i64 t151) := (blk_cell BK157.out 0).trans rfl
            have hcz52_1 : wr.cell? ⟨gb157, 1, none⟩ = some (.int .i64 t152) := (blk_cell BK157.out 1).trans rfl
            have hcz52_2 : wr.cell? ⟨gb157, 2, none⟩ = some (.int .i64 t153) := (blk_cell BK157.out 2).trans rfl
            have hcz52_3 : wr.cell? ⟨gb157, 3, none⟩ = some (.slice Ao38 y161.length co38) := (blk_cell BK157.out 3).trans rfl
            have hfz52_0 := blk_frozen BK157.out 0
            have hfz52_1 := blk_frozen BK157.out 1
            have hfz52_2 := blk_frozen BK157.out 2
            have hfz52_3 := blk_frozen BK157.out 3
            go_upto_if 67 with (first | ((with_reducible refine gate_callee (f := 21) rfl ?_); refine goesL_ (some 54) rfl rfl Try.func21 (by kernel_rfl) rfl #[.agg #[.int .i64 t151, .int .i64 t152, .int .i64 t153, .slice Ao38 y161.length co38], .int .i64 x13_1] rfl (by (try simp only [List.map_toArray, List.map_cons, List.map_nil]); first | done | rfl | (simp only [List.length_drop, List.length_take]; rfl)) ?_; (with_reducible refine (net_Out.calls t151 t152 t153 _ _ y161 x13_1 t164 _ ?side1 ?side2 A41.out).mono ?_); (case side1 => repeat (first | exact (Kd.R_reads' HO_158003.out).2.2 | (with_reducible refine Kd.C_alloc ?_ _) | (with_reducible refine Kd.C_drewN ?_ _) | (with_reducible refine Kd.C_drew ?_))); (case side2 => exact (Kd.R_reads' HO_158003.out).2.1); rintro e w53 ⟨v165, rfl, ho0, hb⟩; refine ⟨_, rfl, ?_⟩; have n0_ := Aside0.mk (Kd.R_below (by (with_reducible repeat (first | apply Kd.R_alloc | apply Kd.R_drewN | apply Kd.R_drew)); exact HO_151003.out) hb); have n1_ := Aside0.mk (Kd.R_below (by (with_reducible repeat (first | apply Kd.R_alloc | apply Kd.R_drewN | apply Kd.R_drew)); exact HO_158003.out) hb); have n2_ := Aside0.mk (Kd.R_lower ho0 (below_size (by repeat (first | (with_reducible first | exact HB.out | apply below_alloc | apply pw_below_drewN | apply below_drew1 | refine below_set ?_ GE142.out | refine below_set ?_ GE150.out | refine below_set ?_ GE157.out | refine below_set ?_ GE160.out) | exact HB.out)))); have n3_ := Aside0.mk (blk_below (g := gb142) (o := .cells #[.int .i64 a3_0, .int .i64 a3_1, .int .i64 a3_2] 41 (0, 0)) (by (with_reducible repeat (first | refine blk_drewN ?_ _ | refine blk_drew ?_ | refine blk_alloc ?_ _)); exact BK142.out) hb); have n4_ := Aside0.mk (blk_below (g := gb150) (o := .cells #[.int .i64 t144, .int .i64 t145, .int .i64 t146, .slice Ao18 t147.length co18] 26 (0, 0)) (by (with_reducible repeat (first | refine blk_drewN ?_ _ | refine blk_drew ?_ | refine blk_alloc ?_ _)); exact BK150.out) hb); have n5_ := Aside0.mk (blk_below (g := gb157) (o := .cells #[.int .i64 t151, .int .i64 t152, .int .i64 t153, .slice Ao38 y161.length co38] 26 (0, 0)) (by (with_reducible repeat (first | refine blk_drewN ?_ _ | refine blk_drew ?_ | refine blk_alloc ?_ _)); exact BK157.out) hb); have n6_ := Aside0.mk (blk_below (g := gb160) (o := .cells #[.int .i64 (wrap64 (1 + t158)), .int .i64 (wrap64 (1 + t159)), .int .i64 1] 28 (0, 0)) (by (with_reducible repeat (first | refine blk_drewN ?_ _ | refine blk_drew ?_ | refine blk_alloc ?_ _)); exact BK160.out) hb); have n7_ := Aside0.mk (below_step (by repeat (first | (with_reducible first | exact HB.out | apply below_alloc | apply pw_below_drewN | apply below_drew1 | refine below_set ?_ GE142.out | refine below_set ?_ GE150.out | refine below_set ?_ GE157.out | refine below_set ?_ GE160.out) | exact HB.out)) hb); clear HO_151003; clear HO_158003; clear BK142; clear BK150; clear BK157; clear BK160; clear HB; have HO_151003 := n0_; have HO_158003 := n1_; have HO166 := n2_; have BK142 := n3_; have BK150 := n4_; have BK157 := n5_; have BK160 := n6_; have HB := n7_; clear n0_ n1_ n2_ n3_ n4_ n5_ n6_ n7_; (try clear hb); (try clear hb2); (try clear hk); (try clear hi); (try clear ho0); have hcz54_0 : w53.cell? ⟨gb157, 0, none⟩ = some (.int .i64 t151) := (blk_cell BK157.out 0).trans rfl; have hcz54_1 : w53.cell? ⟨gb157, 1, none⟩ = some (.int .i64 t152) := (blk_cell BK157.out 1).trans rfl; have hcz54_2 : w53.cell? ⟨gb157, 2, none⟩ = some (.int .i64 t153) := (blk_cell BK157.out 2).trans rfl; have hcz54_3 : w53.cell? ⟨gb157, 3, none⟩ = some (.slice Ao38 y161.length co38) := (blk_cell BK157.out 3).trans rfl; have hfz54_0 := blk_frozen BK157.out 0; have hfz54_1 := blk_frozen BK157.out 1; have hfz54_2 := blk_frozen BK157.out 2; have hfz54_3 := blk_frozen BK157.out 3) | ((with_reducible refine gate_callee (f := 22) rfl ?_); refine goesL_ (some 57) rfl rfl Try.func22 (by kernel_rfl) rfl #[.agg #[.int .i64 t151, .int .i64 t152, .int .i64 t153, .slice Ao38 y161.length co38], .int .i64 x13_1] rfl (by (try simp only [List.map_toArray, List.map_cons, List.map_nil]); first | done | rfl | (simp only [List.length_drop, List.length_take]; rfl)) ?_; (with_reducible refine (net_In.calls t151 t152 t153 _ _ y161 x13_1 t167 _ ?side1 ?side2 A42.out).mono ?_); (case side1 => repeat (first | exact (Kd.R_reads' HO_158003.out).2.2 | (with_reducible refine Kd.C_alloc ?_ _) | (with_reducible refine Kd.C_drewN ?_ _) | (with_reducible refine Kd.C_drew ?_))); (case side2 => exact (Kd.R_reads' HO_158003.out).2.1); rintro e w55 ⟨v168, rfl, ho0, hb⟩; refine ⟨_, rfl, ?_⟩; have n0_ := Aside0.mk (Kd.R_below (by (with_reducible repeat (first | apply Kd.R_alloc | apply Kd.R_drewN | apply Kd.R_drew)); exact HO_151003.out) hb); have n1_ := Aside0.mk (Kd.R_below (by (with_reducible repeat (first | apply Kd.R_alloc | apply Kd.R_drewN | apply Kd.R_drew)); exact HO_158003.out) hb); have n2_ := Aside0.mk (Kd.R_elder' (by (with_reducible repeat (first | apply Kd.R_alloc | apply Kd.R_drewN | apply Kd.R_drew)); exact HO166.out) (Kd.R_base ho0) hb); have n3_ := Aside0.mk (Kd.R_lower (Kd.R_new' ho0 (Kd.R_lt (by (with_reducible repeat (first | apply Kd.R_alloc | apply Kd.R_drewN | apply Kd.R_drew)); exact HO166.out))) (below_size (by repeat (first | (with_reducible first | exact HB.out | apply below_alloc | apply pw_below_drewN | apply below_drew1 | refine below_set ?_ GE142.out | refine below_set ?_ GE150.out | refine below_set ?_ GE157.out | refine below_set ?_ GE160.out) | exact HB.out)))); have n4_ := Aside0.mk (blk_below (g := gb142) (o := .cells #[.int .i64 a3_0, .int .i64 a3_1, .int .i64 a3_2] 41 (0, 0)) (by (with_reducible repeat (first | refine blk_drewN ?_ _ | refine blk_drew ?_ | refine blk_alloc ?_ _)); exact BK142.out) hb); have n5_ := Aside0.mk (blk_below (g := gb150) (o := .cells #[.int .i64 t144, .int .i64 t145, .int .i64 t146, .slice Ao18 t147.length co18] 26 (0, 0)) (by (with_reducible repeat (first | refine blk_drewN ?_ _ | refine blk_drew ?_ | refine blk_alloc ?_ _)); exact BK150.out) hb); have n6_ := Aside0.mk (blk_below (g := gb157) (o := .cells #[.int .i64 t151, .int .i64 t152, .int .i64 t153, .slice Ao38 y161.length co38] 26 (0, 0)) (by (with_reducible repeat (first | refine blk_drewN ?_ _ | refine blk_drew ?_ | refine blk_alloc ?_ _)); exact BK157.out) hb); have n7_ := Aside0.mk (blk_below (g := gb160) (o := .cells #[.int .i64 (wrap64 (1 + t158)), .int .i64 (wrap64 (1 + t159)), .int .i64 1] 28 (0, 0)) (by (with_reducible repeat (first | refine blk_drewN ?_ _ | refine blk_drew ?_ | refine blk_alloc ?_ _)); exact BK160.out) hb); have n8_ := Aside0.mk (below_step (by repeat (first | (with_reducible first | exact HB.out | apply below_alloc | apply pw_below_drewN | apply below_drew1 | refine below_set ?_ GE142.out | refine below_set ?_ GE150.out | refine below_set ?_ GE157.out | refine below_set ?_ GE160.out) | exact HB.out)) hb); clear HO_151003; clear HO_158003; clear HO166; clear BK142; clear BK150; clear BK157; clear BK160; clear HB; have HO_151003 := n0_; have HO_158003 := n1_; have HO166 := n2_; have HO169 := n3_; have BK142 := n4_; have BK150 := n5_; have BK157 := n6_; have BK160 := n7_; have HB := n8_; clear n0_ n1_ n2_ n3_ n4_ n5_ n6_ n7_ n8_; (try clear hb); (try clear hb2); (try clear hk); (try clear hi); (try clear ho0); have hcz56_0 : w55.cell? ⟨gb150, 0, none⟩ = some (.int .i64 t144) := (blk_cell BK150.out 0).trans rfl; have hcz56_1 : w55.cell? ⟨gb150, 1, none⟩ = some (.int .i64 t145) := (blk_cell BK150.out 1).trans rfl; have hcz56_2 : w55.cell? ⟨gb150, 2, none⟩ = some (.int .i64 t146) := (blk_cell BK150.out 2).trans rfl; have hcz56_3 : w55.cell? ⟨gb150, 3, none⟩ = some (.slice Ao18 t147.length co18) := (blk_cell BK150.out 3).trans rfl; have hfz56_0 := blk_frozen BK150.out 0; have hfz56_1 := blk_frozen BK150.out 1; have hfz56_2 := blk_frozen BK150.out 2; have hfz56_3 := blk_frozen BK150.out 3) | ((with_reducible refine gate_callee (f := 21) rfl ?_); refine goesL_ (some 60) rfl rfl Try.func21 (by kernel_rfl) rfl #[.agg #[.int .i64 t144, .int .i64 t145, .int .i64 t146, .slice Ao18 t147.length co18], .int .i64 x13_1] rfl (by (try simp only [List.map_toArray, List.map_cons, List.map_nil]); first | done | rfl | (simp only [List.length_drop, List.length_take]; rfl)) ?_; (with_reducible refine (net_Out.calls t144 t145 t146 _ _ t147 x13_1 t170 _ ?side1 ?side2 A43.out).mono ?_); (case side1 => repeat (first | exact (Kd.R_reads' HO_151003.out).2.2 | (with_reducible refine Kd.C_alloc ?_ _) | (with_reducible refine Kd.C_drewN ?_ _) | (with_reducible refine Kd.C_drew ?_))); (case side2 => exact (Kd.R_reads' HO_151003.out).2.1); rintro e w57 ⟨v171, rfl, ho0, hb⟩; refine ⟨_, rfl, ?_⟩; have n0_ := Aside0.mk (Kd.R_below (by (with_reducible repeat (first | apply Kd.R_alloc | apply Kd.R_drewN | apply Kd.R_drew)); exact HO_151003.out) hb); have n1_ := Aside0.mk (Kd.R_below (by (with_reducible repeat (first | apply Kd.R_alloc | apply Kd.R_drewN | apply Kd.R_drew)); exact HO_158003.out) hb); have n2_ := Aside0.mk (Kd.R_elder' (by (with_reducible repeat (first | apply Kd.R_alloc | apply Kd.R_drewN | apply Kd.R_drew)); exact HO166.out) (Kd.R_base ho0) hb); have n3_ := Aside0.mk (Kd.R_elder' (by (with_reducible repeat (first | apply Kd.R_alloc | apply Kd.R_drewN | apply Kd.R_drew)); exact HO169.out) (Kd.R_base ho0) hb); have n4_ := Aside0.mk (Kd.R_lower (Kd.R_new' (Kd.R_new' ho0 (Kd.R_lt (by (with_reducible repeat (first | apply Kd.R_alloc | apply Kd.R_drewN | apply Kd.R_drew)); exact HO166.out))) (Kd.R_lt (by (with_reducible repeat (first | apply Kd.R_alloc | apply Kd.R_drewN | apply Kd.R_drew)); exact HO169.out))) (below_size (by repeat (first | (with_reducible first | exact HB.out | apply below_alloc | apply pw_below_drewN | apply below_drew1 | refine below_set ?_ GE142.out | refine below_set ?_ GE150.out | refine below_set ?_ GE157.out | refine below_set ?_ GE160.out) | exact HB.out)))); have n5_ := Aside0.mk (blk_below (g := gb142) (o := .cells #[.int .i64 a3_0, .int .i64 a3_1, .int .i64 a3_2] 41 (0, 0)) (by (with_reducible repeat (first | refine blk_drewN ?_ _ | refine blk_drew ?_ | refine blk_alloc ?_ _)); exact BK142.out) hb); have n6_ := Aside0.mk (blk_below (g := gb150) (o := .cells #[.int .i64 t144, .int .i64 t145, .int .i64 t146, .slice Ao18 t147.length co18] 26 (0, 0)) (by (with_reducible repeat (first | refine blk_drewN ?_ _ | refine blk_drew ?_ | refine blk_alloc ?_ _)); exact BK150.out) hb); have n7_ := Aside0.mk (blk_below (g := gb157) (o := .cells #[.int .i64 t151, .int .i64 t152, .int .i64 t153, .slice Ao38 y161.length co38] 26 (0, 0)) (by (with_reducible repeat (first | refine blk_drewN ?_ _ | refine blk_drew ?_ | refine blk_alloc ?_ _)); exact BK157.out) hb); have n8_ := Aside0.mk (blk_below (g := gb160) (o := .cells #[.int .i64 (wrap64 (1 + t158)), .int .i64 (wrap64 (1 + t159)), .int .i64 1] 28 (0, 0)) (by (with_reducible repeat (first | refine blk_drewN ?_ _ | refine blk_drew ?_ | refine blk_alloc ?_ _)); exact BK160.out) hb); have n9_ := Aside0.mk (below_step (by repeat (first | (with_reducible first | exact HB.out | apply below_alloc | apply pw_below_drewN | apply below_drew1 | refine below_set ?_ GE142.out | refine below_set ?_ GE150.out | refine below_set ?_ GE157.out | refine below_set ?_ GE160.out) | exact HB.out)) hb); clear HO_151003; clear HO_158003; clear HO166; clear HO169; clear BK142; clear BK150; clear BK157; clear BK160; clear HB; have HO_151003 := n0_; have HO_158003 := n1_; have HO166 := n2_; have HO169 := n3_; have HO172 := n4_; have BK142 := n5_; have BK150 := n6_; have BK157 := n7_; have BK160 := n8_; have HB := n9_; clear n0_ n1_ n2_ n3_ n4_ n5_ n6_ n7_ n8_ n9_; (try clear hb); (try clear hb2); (try clear hk); (try clear hi); (try clear ho0); have hcz58_0 : w57.cell? ⟨gb150, 0, none⟩ = some (.int .i64 t144) := (blk_cell BK150.out 0).trans rfl; have hcz58_1 : w57.cell? ⟨gb150, 1, none⟩ = some (.int .i64 t145) := (blk_cell BK150.out 1).trans rfl; have hcz58_2 : w57.cell? ⟨gb150, 2, none⟩ = some (.int .i64 t146) := (blk_cell BK150.out 2).trans rfl; have hcz58_3 : w57.cell? ⟨gb150, 3, none⟩ = some (.slice Ao18 t147.length co18) := (blk_cell BK150.out 3).trans rfl; have hfz58_0 := blk_frozen BK150.out 0; have hfz58_1 := blk_frozen BK150.out 1; have hfz58_2 := blk_frozen BK150.out 2; have hfz58_3 := blk_frozen BK150.out 3) | ((with_reducible refine gate_callee (f := 22) rfl ?_); refine goesL_ (some 63) rfl rfl Try.func22 (by kernel_rfl) rfl #[.agg #[.int .i64 t144, .int .i64 t145, .int .i64 t146, .slice Ao18 t147.length co18], .int .i64 x13_1] rfl (by (try simp only [List.map_toArray, List.map_cons, List.map_nil]); first | done | rfl | (simp only [List.length_drop, List.length_take]; rfl)) ?_; (with_reducible refine (net_In.calls t144 t145 t146 _ _ t147 x13_1 t173 _ ?side1 ?side2 A44.out).mono ?_); (case side1 => repeat (first | exact (Kd.R_reads' HO_151003.out).2.2 | (with_reducible refine Kd.C_alloc ?_ _) | (with_reducible refine Kd.C_drewN ?_ _) | (with_reducible refine Kd.C_drew ?_))); (case side2 => exact (Kd.R_reads' HO_151003.out).2.1); rintro e w59 ⟨v174, rfl, ho0, hb⟩; refine ⟨_, rfl, ?_⟩; have n0_ := Aside0.mk (Kd.R_below (by (with_reducible repeat (first | apply Kd.R_alloc | apply Kd.R_drewN | apply Kd.R_drew)); exact HO_151003.out) hb); have n1_ := Aside0.mk (Kd.R_below (by (with_reducible repeat (first | apply Kd.R_alloc | apply Kd.R_drewN | apply Kd.R_drew)); exact HO_158003.out) hb); have n2_ := Aside0.mk (Kd.R_elder' (by (with_reducible repeat (first | apply Kd.R_alloc | apply Kd.R_drewN | apply Kd.R_drew)); exact HO166.out) (Kd.R_base ho0) hb); have n3_ := Aside0.mk (Kd.R_elder' (by (with_reducible repeat (first | apply Kd.R_alloc | apply Kd.R_drewN | apply Kd.R_drew)); exact HO169.out) (Kd.R_base ho0) hb); have n4_ := Aside0.mk (Kd.R_elder' (by (with_reducible repeat (first | apply Kd.R_alloc | apply Kd.R_drewN | apply Kd.R_drew)); exact HO172.out) (Kd.R_base ho0) hb); have n5_ := Aside0.mk (Kd.R_lower (Kd.R_new' (Kd.R_new' (Kd.R_new' ho0 (Kd.R_lt (by (with_reducible repeat (first | apply Kd.R_alloc | apply Kd.R_drewN | apply Kd.R_drew)); exact HO166.out))) (Kd.R_lt (by (with_reducible repeat (first | apply Kd.R_alloc | apply Kd.R_drewN | apply Kd.R_drew)); exact HO169.out))) (Kd.R_lt (by (with_reducible repeat (first | apply Kd.R_alloc | apply Kd.R_drewN | apply Kd.R_drew)); exact HO172.out))) (below_size (by repeat (first | (with_reducible first | exact HB.out | apply below_alloc | apply pw_below_drewN | apply below_drew1 | refine below_set ?_ GE142.out | refine below_set ?_ GE150.out | refine below_set ?_ GE157.out | refine below_set ?_ GE160.out) | exact HB.out)))); have n6_ := Aside0.mk (blk_below (g := gb142) (o := .cells #[.int .i64 a3_0, .int .i64 a3_1, .int .i64 a3_2] 41 (0, 0)) (by (with_reducible repeat (first | refine blk_drewN ?_ _ | refine blk_drew ?_ | refine blk_alloc ?_ _)); exact BK142.out) hb); have n7_ := Aside0.mk (blk_below (g := gb150) (o := .cells #[.int .i64 t144, .int .i64 t145, .int .i64 t146, .slice Ao18 t147.length co18] 26 (0, 0)) (by (with_reducible repeat (first | refine blk_drewN ?_ _ | refine blk_drew ?_ | refine blk_alloc ?_ _)); exact BK150.out) hb); have n8_ := Aside0.mk (blk_below (g := gb157) (o := .cells #[.int .i64 t151, .int .i64 t152, .int .i64 t153, .slice Ao38 y161.length co38] 26 (0, 0)) (by (with_reducible repeat (first | refine blk_drewN ?_ _ | refine blk_drew ?_ | refine blk_alloc ?_ _)); exact BK157.out) hb); have n9_ := Aside0.mk (blk_below (g := gb160) (o := .cells #[.int .i64 (wrap64 (1 + t158)), .int .i64 (wrap64 (1 + t159)), .int .i64 1] 28 (0, 0)) (by (with_reducible repeat (first | refine blk_drewN ?_ _ | refine blk_drew ?_ | refine blk_alloc ?_ _)); exact BK160.out) hb); have n10_ := Aside0.mk (below_step (by repeat (first | (with_reducible first | exact HB.out | apply below_alloc | apply pw_below_drewN | apply below_drew1 | refine below_set ?_ GE142.out | refine below_set ?_ GE150.out | refine below_set ?_ GE157.out | refine below_set ?_ GE160.out) | exact HB.out)) hb); clear HO_151003; clear HO_158003; clear HO166; clear HO169; clear HO172; clear BK142; clear BK150; clear BK157; clear BK160; clear HB; have HO_151003 := n0_; have HO_158003 := n1_; have HO166 := n2_; have HO169 := n3_; have HO172 := n4_; have HO175 := n5_; have BK142 := n6_; have BK150 := n7_; have BK157 := n8_; have BK160 := n9_; have HB := n10_; clear n0_ n1_ n2_ n3_ n4_ n5_ n6_ n7_ n8_ n9_ n10_; (try clear hb); (try clear hb2); (try clear hk); (try clear hi); (try clear ho0); have hnb60 := NB160_142.out; have hnc60 := NB142_160.out; have hcz61_0 : w59.cell? ⟨gb160, 0, none⟩ = some (.int .i64 (wrap64 (1 + t158))) := (blk_cell BK160.out 0).trans rfl; have hcz61_1 : w59.cell? ⟨gb160, 1, none⟩ = some (.int .i64 (wrap64 (1 + t159))) := (blk_cell BK160.out 1).trans rfl; have hcz61_2 : w59.cell? ⟨gb160, 2, none⟩ = some (.int .i64 1) := (blk_cell BK160.out 2).trans rfl; have hfz61_0 := blk_frozen BK160.out 0; have hfz61_1 := blk_frozen BK160.out 1; have hfz61_2 := blk_frozen BK160.out 2))
            (try simp only [Act.put, List.setIfInBounds_toArray, List.set_cons_zero, List.set_cons_succ])
            go_cut [16] (fun v16 wc => ∃ (kq : Nat) (x16_44 : List Int), Aside0 (racewaylaw3_NetDegrees.j1 kq x13_1 t164 t167 x16_44 t173 t144 t145 t146 t147 t151 t152 t153 y161 (wrap64 (1 + t158)) (wrap64 (1 + t159)) 1 = some r) ∧ Aside0 (kq ≤ k1) ∧ Aside0 (Kd.R (Kd.int .i64) 3 wc w.heap.size (fun k_ => some k_ ≠ (v168 : Value).ownBlock ∧ some k_ ≠ (v16 : Value).ownBlock ∧ some k_ ≠ (v174 : Value).ownBlock) v165 t164) ∧ Aside0 (Kd.R (Kd.int .i64) 3 wc w.heap.size (fun k_ => some k_ ≠ (v165 : Value).ownBlock ∧ some k_ ≠ (v16 : Value).ownBlock ∧ some k_ ≠ (v174 : Value).ownBlock) v168 t167) ∧ Aside0 (Kd.R (Kd.int .i64) 3 wc w.heap.size (fun k_ => some k_ ≠ (v165 : Value).ownBlock ∧ some k_ ≠ (v168 : Value).ownBlock ∧ some k_ ≠ (v174 : Value).ownBlock) v16 x16_44) ∧ Aside0 (Kd.R (Kd.int .i64) 3 wc w.heap.size (fun k_ => some k_ ≠ (v165 : Value).ownBlock ∧ some k_ ≠ (v168 : Value).ownBlock ∧ some k_ ≠ (v16 : Value).ownBlock) v174 t173) ∧ Aside0 (Kd.R k28 28 wc w.heap.size (fun k_ => some k_ ≠ ((.slice Ao38 y161.length co38) : Value).ownBlock ∧ k_ ≠ gb160) (.slice Ao18 t147.length co18) t147) ∧ Aside0 (Kd.R k28 28 wc w.heap.size (fun k_ => some k_ ≠ ((.slice Ao18 t147.length co18) : Value).ownBlock ∧ k_ ≠ gb160) (.slice Ao38 y161.length co38) y161) ∧ Aside0 (wc.heap[gb142]? = some (.cells #[.int .i64 a3_0, .int .i64 a3_1, .int .i64 a3_2] 41 (0, 0))) ∧ Aside0 (wc.heap[gb150]? = some (.cells #[.int .i64 t144, .int .i64 t145, .int .i64 t146, (.slice Ao18 t147.length co18)] 26 (0, 0))) ∧ Aside0 (wc.heap[gb157]? = some (.cells #[.int .i64 t151, .int .i64 t152, .int .i64 t153, (.slice Ao38 y161.length co38)] 26 (0, 0))) ∧ Aside0 (wc.heap[gb160]? = some (.cells #[.int .i64 (wrap64 (1 + t158)), .int .i64 (wrap64 (1 + t159)), .int .i64 1] 28 (0, 0))) ∧ Aside0 (Below w.heap.size w wc))
            case first =>
              have H := HC45.out
              clear HC45
              by_cases c62 : x13_1 = (wrap64 (1 + t158))
              · rw [if_pos c62] at H
                have c62b0 : (x13_1 == (wrap64 (1 + t158))) = true := beq_iff_eq.mpr c62
                have c62b1 : (x13_1 != (wrap64 (1 + t158))) = false := bne_eq_false_iff_eq.mpr c62
                clear c62
                (first | rw [c62b0] | (simp only [i64_w, i32_w]; rw [c62b0]) | skip)
                by_cases c63 : t170.length < 17592186044416
                · rw [if_pos c63] at H
                  have LMc63 := Aside0.mk c63
                  clear c63
                  obtain ⟨y176, hy176⟩ : ∃ y_ : List Int, y_ = (t170 ++ [(t147.length : Int)]) := ⟨_, rfl⟩
                  replace H : (racewaylaw3_NetDegrees.j1 k1 x13_1 t164 t167 y176 t173 t144 t145 t146 t147 t151 t152 t153 y161 (wrap64 (1 + t158)) (wrap64 (1 + t159)) 1) = some r := by first | (rw [hy176]; with_reducible exact H) | (have H2_ := (Option.bind_some _ _).symm.trans H; rw [hy176]; with_reducible exact H2_) | (have H2_ := (Option.bind_some _ _).symm.trans H; with_reducible exact H2_) | with_reducible exact H | (rw [hy176]; exact H) | exact H
                  have Ny176 := Aside0.mk hy176
                  clear hy176
                  have H' := Aside0.mk H
                  clear H
                  have hnb64 := NB150_142.out
                  have hnc64 := NB142_150.out
                  have hnb65 := NB150_157.out
                  have hnc65 := NB157_150.out
                  have hnb66 := NB150_160.out
                  have hnc66 := NB160_150.out
                  have hcz67_0 : w59.cell? ⟨gb150, 0, none⟩ = some (.int .i64 t144) := (blk_cell BK150.out 0).trans rfl
                  have hcz67_1 : w59.cell? ⟨gb150, 1, none⟩ = some (.int .i64 t145) := (blk_cell BK150.out 1).trans rfl
                  have hcz67_2 : w59.cell? ⟨gb150, 2, none⟩ = some (.int .i64 t146) := (blk_cell BK150.out 2).trans rfl
                  have hcz67_3 : w59.cell? ⟨gb150, 3, none⟩ = some (.slice Ao18 t147.length co18) := (blk_cell BK150.out 3).trans rfl
                  have hfz67_0 := blk_frozen BK150.out 0
                  have hfz67_1 := blk_frozen BK150.out 1
                  have hfz67_2 := blk_frozen BK150.out 2
                  have hfz67_3 := blk_frozen BK150.out 3
                  go_wp2_with (first | ((with_reducible refine gate_builtin (b := .append) (xs := #[.tmp 68, .tmp 72]) rfl ?_); at_builtin; refine Kd.R_append (Kd.int .i64) (w0 := w) w.heap.size rfl (.tmp 68) (.tmp 72) 37 3 (.int .i64 0) 8 rfl Try.underlying37 info3 rfl (by decide) (by omega) v171 t170 (t147.length : Int) [.int .i64 (t147.length : Int)] (fun k_ => some k_ ≠ (v165 : Value).ownBlock ∧ some k_ ≠ (v168 : Value).ownBlock ∧ some k_ ≠ (v174 : Value).ownBlock) (fun _ => False) rfl rfl ?aP (fun _ hk => hk.elim) ?aF ?aO ?aB ?aS ?aL ?_; (case aP => exact rfl); (case aB => exact (by repeat (first | (with_reducible first | exact HB.out | apply below_alloc | apply pw_below_drewN | apply below_drew1 | refine below_set ?_ GE142.out | refine below_set ?_ GE150.out | refine below_set ?_ GE157.out | refine below_set ?_ GE160.out) | exact HB.out))); (case aF => exact (fun k_ hk => ⟨Kd.fresh' (Kd.R_lt (by (with_reducible repeat (first | apply Kd.R_alloc | apply Kd.R_drewN | apply Kd.R_drew)); exact HO166.out)) k_ hk, Kd.fresh' (Kd.R_lt (by (with_reducible repeat (first | apply Kd.R_alloc | apply Kd.R_drewN | apply Kd.R_drew)); exact HO169.out)) k_ hk, Kd.fresh' (Kd.R_lt (by (with_reducible repeat (first | apply Kd.R_alloc | apply Kd.R_drewN | apply Kd.R_drew)); exact HO175.out)) k_ hk⟩)); (case aO => exact (by (with_reducible repeat (first | apply Kd.R_alloc | apply Kd.R_drewN | apply Kd.R_drew)); exact Kd.R_mono HO172.out (fun _ hk => ⟨hk.1.1.2, ⟨hk.1.2, hk.2⟩⟩))); (case aS => exact (below_size (by repeat (first | (with_reducible first | exact HB.out | apply below_alloc | apply pw_below_drewN | apply below_drew1 | refine below_set ?_ GE142.out | refine below_set ?_ GE150.out | refine below_set ?_ GE157.out | refine below_set ?_ GE160.out) | exact HB.out)))); (case aL => have := LMc63.out; omega); intro v177 w68 ho hb hg hat; rw [← Ny176.out] at ho; have n0_ := Aside0.mk (Kd.R_over' (by (with_reducible repeat (first | apply Kd.R_alloc | apply Kd.R_drewN | apply Kd.R_drew)); exact HO_151003.out) (Kd.R_typed (by (with_reducible repeat (first | apply Kd.R_alloc | apply Kd.R_drewN | apply Kd.R_drew)); exact HO172.out)) (by decide) hg); have n1_ := Aside0.mk (Kd.R_over' (by (with_reducible repeat (first | apply Kd.R_alloc | apply Kd.R_drewN | apply Kd.R_drew)); exact HO_158003.out) (Kd.R_typed (by (with_reducible repeat (first | apply Kd.R_alloc | apply Kd.R_drewN | apply Kd.R_drew)); exact HO172.out)) (by decide) hg); have n2_ := Aside0.mk (blk_grown (g := gb142) (o := .cells #[.int .i64 a3_0, .int .i64 a3_1, .int .i64 a3_2] 41 (0, 0)) (by (with_reducible repeat (first | refine blk_drewN ?_ _ | refine blk_drew ?_ | refine blk_alloc ?_ _)); exact BK142.out) hg (Kd.R_ne HO172.out BK142.out (by decide))); have n3_ := Aside0.mk (blk_grown (g := gb150) (o := .cells #[.int .i64 t144, .int .i64 t145, .int .i64 t146, .slice Ao18 t147.length co18] 26 (0, 0)) (by (with_reducible repeat (first | refine blk_drewN ?_ _ | refine blk_drew ?_ | refine blk_alloc ?_ _)); exact BK150.out) hg (Kd.R_ne HO172.out BK150.out (by decide))); have n4_ := Aside0.mk (blk_grown (g := gb157) (o := .cells #[.int .i64 t151, .int .i64 t152, .int .i64 t153, .slice Ao38 y161.length co38] 26 (0, 0)) (by (with_reducible repeat (first | refine blk_drewN ?_ _ | refine blk_drew ?_ | refine blk_alloc ?_ _)); exact BK157.out) hg (Kd.R_ne HO172.out BK157.out (by decide))); have n5_ := Aside0.mk (blk_grown (g := gb160) (o := .cells #[.int .i64 (wrap64 (1 + t158)), .int .i64 (wrap64 (1 + t159)), .int .i64 1] 28 (0, 0)) (by (with_reducible repeat (first | refine blk_drewN ?_ _ | refine blk_drew ?_ | refine blk_alloc ?_ _)); exact BK160.out) hg (Kd.R_ne HO172.out BK160.out (by decide))); have n6_ := Aside0.mk (Kd.R_after (ok := (fun k_ => some k_ ≠ (v168 : Value).ownBlock ∧ some k_ ≠ (v174 : Value).ownBlock)) (by (with_reducible repeat (first | apply Kd.R_alloc | apply Kd.R_drewN | apply Kd.R_drew)); exact Kd.R_mono HO166.out (fun _ hk => ⟨⟨hk.1.1.2, hk.2⟩, hk.1.2⟩)) hg hat); have n7_ := Aside0.mk (Kd.R_after (ok := (fun k_ => some k_ ≠ (v165 : Value).ownBlock ∧ some k_ ≠ (v174 : Value).ownBlock)) (by (with_reducible repeat (first | apply Kd.R_alloc | apply Kd.R_drewN | apply Kd.R_drew)); exact Kd.R_mono HO169.out (fun _ hk => ⟨⟨hk.1.1.2, hk.2⟩, hk.1.2⟩)) hg hat); have n8_ := Aside0.mk (Kd.R_after (ok := (fun k_ => some k_ ≠ (v165 : Value).ownBlock ∧ some k_ ≠ (v168 : Value).ownBlock)) (by (with_reducible repeat (first | apply Kd.R_alloc | apply Kd.R_drewN | apply Kd.R_drew)); exact Kd.R_mono HO175.out (fun _ hk => ⟨⟨hk.1.1.2, hk.1.2⟩, hk.2⟩)) hg hat); have n9_ := Aside0.mk (hb); have n10_ := Aside0.mk (ho); clear HO_151003; clear HO_158003; clear BK142; clear BK150; clear BK157; clear BK160; clear HO166; clear HO169; clear HO175; clear HB; clear HO172; have HO_151003 := n0_; have HO_158003 := n1_; have BK142 := n2_; have BK150 := n3_; have BK157 := n4_; have BK160 := n5_; have HO166 := n6_; have HO169 := n7_; have HO175 := n8_; have HB := n9_; have HO178 := n10_; clear n0_ n1_ n2_ n3_ n4_ n5_ n6_ n7_ n8_ n9_ n10_; clear ho hb hg hat))
                  go_meet
                  case rel => exact ⟨_, (y176), H', ⟨by have := HK1.out; first | omega | exact Nat.le_refl _⟩, ⟨by (with_reducible repeat (first | apply Kd.R_alloc | apply Kd.R_drewN | apply Kd.R_drew)); exact Kd.R_mono HO166.out (fun _ hk => ⟨hk.1.1, ⟨hk.2, hk.1.2⟩⟩)⟩, ⟨by (with_reducible repeat (first | apply Kd.R_alloc | apply Kd.R_drewN | apply Kd.R_drew)); exact Kd.R_mono HO169.out (fun _ hk => ⟨hk.1.1, ⟨hk.2, hk.1.2⟩⟩)⟩, ⟨by (with_reducible repeat (first | apply Kd.R_alloc | apply Kd.R_drewN | apply Kd.R_drew)); exact HO178.out⟩, ⟨by (with_reducible repeat (first | apply Kd.R_alloc | apply Kd.R_drewN | apply Kd.R_drew)); exact Kd.R_mono HO175.out (fun _ hk => ⟨hk.1.1, ⟨hk.1.2, hk.2⟩⟩)⟩, ⟨by (with_reducible repeat (first | apply Kd.R_alloc | apply Kd.R_drewN | apply Kd.R_drew)); exact HO_151003.out⟩, ⟨by (with_reducible repeat (first | apply Kd.R_alloc | apply Kd.R_drewN | apply Kd.R_drew)); exact HO_158003.out⟩, ⟨by (with_reducible repeat (first | refine blk_drewN ?_ _ | refine blk_drew ?_ | refine blk_alloc ?_ _)); exact BK142.out⟩, ⟨by (with_reducible repeat (first | refine blk_drewN ?_ _ | refine blk_drew ?_ | refine blk_alloc ?_ _)); exact BK150.out⟩, ⟨by (with_reducible repeat (first | refine blk_drewN ?_ _ | refine blk_drew ?_ | refine blk_alloc ?_ _)); exact BK157.out⟩, ⟨by (with_reducible repeat (first | refine blk_drewN ?_ _ | refine blk_drew ?_ | refine blk_alloc ?_ _)); exact BK160.out⟩, ⟨by repeat (first | (with_reducible first | exact HB.out | apply below_alloc | apply pw_below_drewN | apply below_drew1 | refine below_set ?_ GE142.out | refine below_set ?_ GE150.out | refine below_set ?_ GE157.out | refine below_set ?_ GE160.out) | exact HB.out)⟩⟩
                · rw [if_neg c63] at H
                  exact absurd H (by simp)
              · rw [if_neg c62] at H
                have c62b0 : (x13_1 == (wrap64 (1 + t158))) = false := beq_eq_false_iff_ne.mpr c62
                have c62b1 : (x13_1 != (wrap64 (1 + t158))) = true := bne_iff_ne.mpr c62
                (first | rw [c62b0] | (simp only [i64_w, i32_w]; rw [c62b0]) | skip)
                have H' := Aside0.mk H
                clear H
                go_wp2
                go_meet
                case rel => exact ⟨_, (t170), H', ⟨by have := HK1.out; first | omega | exact Nat.le_refl _⟩, ⟨by (with_reducible repeat (first | apply Kd.R_alloc | apply Kd.R_drewN | apply Kd.R_drew)); exact Kd.R_mono HO166.out (fun _ hk => ⟨hk.1.1.2, ⟨hk.1.2, hk.2⟩⟩)⟩, ⟨by (with_reducible repeat (first | apply Kd.R_alloc | apply Kd.R_drewN | apply Kd.R_drew)); exact Kd.R_mono HO169.out (fun _ hk => ⟨hk.1.1.2, ⟨hk.1.2, hk.2⟩⟩)⟩, ⟨by (with_reducible repeat (first | apply Kd.R_alloc | apply Kd.R_drewN | apply Kd.R_drew)); exact Kd.R_mono HO172.out (fun _ hk => ⟨hk.1.1.2, ⟨hk.1.2, hk.2⟩⟩)⟩, ⟨by (with_reducible repeat (first | apply Kd.R_alloc | apply Kd.R_drewN | apply Kd.R_drew)); exact Kd.R_mono HO175.out (fun _ hk => ⟨hk.1.1.2, ⟨hk.1.2, hk.2⟩⟩)⟩, ⟨by (with_reducible repeat (first | apply Kd.R_alloc | apply Kd.R_drewN | apply Kd.R_drew)); exact HO_151003.out⟩, ⟨by (with_reducible repeat (first | apply Kd.R_alloc | apply Kd.R_drewN | apply Kd.R_drew)); exact HO_158003.out⟩, ⟨by (with_reducible repeat (first | refine blk_drewN ?_ _ | refine blk_drew ?_ | refine blk_alloc ?_ _)); exact BK142.out⟩, ⟨by (with_reducible repeat (first | refine blk_drewN ?_ _ | refine blk_drew ?_ | refine blk_alloc ?_ _)); exact BK150.out⟩, ⟨by (with_reducible repeat (first | refine blk_drewN ?_ _ | refine blk_drew ?_ | refine blk_alloc ?_ _)); exact BK157.out⟩, ⟨by (with_reducible repeat (first | refine blk_drewN ?_ _ | refine blk_drew ?_ | refine blk_alloc ?_ _)); exact BK160.out⟩, ⟨by repeat (first | (with_reducible first | exact HB.out | apply below_alloc | apply pw_below_drewN | apply below_drew1 | refine below_set ?_ GE142.out | refine below_set ?_ GE150.out | refine below_set ?_ GE157.out | refine below_set ?_ GE160.out) | exact HB.out)⟩⟩
            case rest =>
              clear HC45
              try clear c1
              try clear c2
              try clear p2
              try clear c3
              try clear c4
              try clear c5
              try clear c6
              try clear p6
              try clear c7
              try clear c11
              try clear c14
              try clear c15
              try clear c16
              try clear c17
              try clear c18
              try clear c21
              try clear c22
              try clear c32
              try clear c34
              try clear c35
              try clear c40
              try clear c40b0
              try clear c46
              try clear c47
              try clear c48
              try clear c50
              try clear c51
              try clear c60
              try clear c62
              try clear c62b0
              try clear c62b1
              try clear c63
              try clear c64
              try clear p64
              try clear c65
              try clear c66
              try clear hcz17_0
              try clear hcz17_1
              try clear hcz17_2
              try clear hcz17_3
              try clear hcz23_0
              try clear hcz23_1
              try clear hcz23_2
              try clear hcz23_3
              try clear hcz33_0
              try clear hcz33_1
              try clear hcz33_2
              try clear hcz33_3
              try clear hcz36_0
              try clear hcz36_1
              try clear hcz36_2
              try clear hcz39_0
              try clear hcz39_1
              try clear hcz39_2
              try clear hcz39_3
              try clear hcz49_0
              try clear hcz49_1
              try clear hcz49_2
              try clear hcz49_3
              try clear hcz52_0
              try clear hcz52_1
              try clear hcz52_2
              try clear hcz52_3
              try clear hcz54_0
              try clear hcz54_1
              try clear hcz54_2
              try clear hcz54_3
              try clear hcz56_0
              try clear hcz56_1
              try clear hcz56_2
              try clear hcz56_3
              try clear hcz58_0
              try clear hcz58_1
              try clear hcz58_2
              try clear hcz58_3
              try clear hcz61_0
              try clear hcz61_1
              try clear hcz61_2
              try clear hcz67_0
              try clear hcz67_1
              try clear hcz67_2
              try clear hcz67_3
              try clear hfz17_0
              try clear hfz17_1
              try clear hfz17_2
              try clear hfz17_3
              try clear hfz23_0
              try clear hfz23_1
              try clear hfz23_2
              try clear hfz23_3
              try clear hfz33_0
              try clear hfz33_1
              try clear hfz33_2
              try clear hfz33_3
              try clear hfz36_0
              try clear hfz36_1
              try clear hfz36_2
              try clear hfz39_0
              try clear hfz39_1
              try clear hfz39_2
              try clear hfz39_3
              try clear hfz49_0
              try clear hfz49_1
              try clear hfz49_2
              try clear hfz49_3
              try clear hfz52_0
              try clear hfz52_1
              try clear hfz52_2
              try clear hfz52_3
              try clear hfz54_0
              try clear hfz54_1
              try clear hfz54_2
              try clear hfz54_3
              try clear hfz56_0
              try clear hfz56_1
              try clear hfz56_2
              try clear hfz56_3
              try clear hfz58_0
              try clear hfz58_1
              try clear hfz58_2
              try clear hfz58_3
              try clear hfz61_0
              try clear hfz61_1
              try clear hfz61_2
              try clear hfz67_0
              try clear hfz67_1
              try clear hfz67_2
              try clear hfz67_3
              try clear p2
              try clear p6
              obtain ⟨kq, x16_44, HA, HJ44, HO_14, HO_15, HO_16, HO_17, HO_151003, HO_158003, BK142, BK150, BK157, BK160, HB⟩ := hcut
              cases kq with
              | zero => exact absurd HA.out (by simp [racewaylaw3_NetDegrees.j1])
              | succ kj44 =>
                have H := HA.out
                clear HA
                simp only [racewaylaw3_NetDegrees.j1] at H
                have HC69 := Aside0.mk H
                clear H
                have hnb70 := NB160_142.out
                have hnc70 := NB142_160.out
                have hnb71 := NB160_150.out
                have hnc71 := NB150_160.out
                have hnb72 := NB160_157.out
                have hnc72 := NB157_160.out
                have hcz73_0 : wc.cell? ⟨gb160, 0, none⟩ = some (.int .i64 (wrap64 (1 + t158))) := (blk_cell BK160.out 0).trans rfl
                have hcz73_1 : wc.cell? ⟨gb160, 1, none⟩ = some (.int .i64 (wrap64 (1 + t159))) := (blk_cell BK160.out 1).trans rfl
                have hcz73_2 : wc.cell? ⟨gb160, 2, none⟩ = some (.int .i64 1) := (blk_cell BK160.out 2).trans rfl
                have hfz73_0 := blk_frozen BK160.out 0
                have hfz73_1 := blk_frozen BK160.out 1
                have hfz73_2 := blk_frozen BK160.out 2
                go_upto_if 77 with (fail)
                go_cut [17] (fun v17 wc => ∃ (kq : Nat) (x17_68 : List Int), Aside0 (racewaylaw3_NetDegrees.j2 kq x13_1 t164 t167 x16_44 x17_68 t144 t145 t146 t147 t151 t152 t153 y161 (wrap64 (1 + t158)) (wrap64 (1 + t159)) 1 = some r) ∧ Aside0 (kq ≤ kj44) ∧ Aside0 (Kd.R (Kd.int .i64) 3 wc w.heap.size (fun k_ => some k_ ≠ (v168 : Value).ownBlock ∧ some k_ ≠ (u16 : Value).ownBlock ∧ some k_ ≠ (v17 : Value).ownBlock) v165 t164) ∧ Aside0 (Kd.R (Kd.int .i64) 3 wc w.heap.size (fun k_ => some k_ ≠ (v165 : Value).ownBlock ∧ some k_ ≠ (u16 : Value).ownBlock ∧ some k_ ≠ (v17 : Value).ownBlock) v168 t167) ∧ Aside0 (Kd.R (Kd.int .i64) 3 wc w.heap.size (fun k_ => some k_ ≠ (v165 : Value).ownBlock ∧ some k_ ≠ (v168 : Value).ownBlock ∧ some k_ ≠ (v17 : Value).ownBlock) u16 x16_44) ∧ Aside0 (Kd.R (Kd.int .i64) 3 wc w.heap.size (fun k_ => some k_ ≠ (v165 : Value).ownBlock ∧ some k_ ≠ (v168 : Value).ownBlock ∧ some k_ ≠ (u16 : Value).ownBlock) v17 x17_68) ∧ Aside0 (Kd.R k28 28 wc w.heap.size (fun k_ => some k_ ≠ ((.slice Ao38 y161.length co38) : Value).ownBlock ∧ k_ ≠ gb160) (.slice Ao18 t147.length co18) t147) ∧ Aside0 (Kd.R k28 28 wc w.heap.size (fun k_ => some k_ ≠ ((.slice Ao18 t147.length co18) : Value).ownBlock ∧ k_ ≠ gb160) (.slice Ao38 y161.length co38) y161) ∧ Aside0 (wc.heap[gb142]? = some (.cells #[.int .i64 a3_0, .int .i64 a3_1, .int .i64 a3_2] 41 (0, 0))) ∧ Aside0 (wc.heap[gb150]? = some (.cells #[.int .i64 t144, .int .i64 t145, .int .i64 t146, (.slice Ao18 t147.length co18)] 26 (0, 0))) ∧ Aside0 (wc.heap[gb157]? = some (.cells #[.int .i64 t151, .int .i64 t152, .int .i64 t153, (.slice Ao38 y161.length co38)] 26 (0, 0))) ∧ Aside0 (wc.heap[gb160]? = some (.cells #[.int .i64 (wrap64 (1 + t158)), .int .i64 (wrap64 (1 + t159)), .int .i64 1] 28 (0, 0))) ∧ Aside0 (Below w.heap.size w wc))
                case first =>
                  have H := HC69.out
                  clear HC69
                  by_cases c74 : x13_1 = (wrap64 (1 + t159))
                  · rw [if_pos c74] at H
                    have c74b0 : (x13_1 == (wrap64 (1 + t159))) = true := beq_iff_eq.mpr c74
                    have c74b1 : (x13_1 != (wrap64 (1 + t159))) = false := bne_eq_false_iff_eq.mpr c74
                    clear c74
                    (first | rw [c74b0] | (simp only [i64_w, i32_w]; rw [c74b0]) | skip)
                    by_cases c75 : t173.length < 17592186044416
                    · rw [if_pos c75] at H
                      have LMc75 := Aside0.mk c75
                      clear c75
                      obtain ⟨y179, hy179⟩ : ∃ y_ : List Int, y_ = (t173 ++ [(t147.length : Int)]) := ⟨_, rfl⟩
                      replace H : (racewaylaw3_NetDegrees.j2 kj44 x13_1 t164 t167 x16_44 y179 t144 t145 t146 t147 t151 t152 t153 y161 (wrap64 (1 + t158)) (wrap64 (1 + t159)) 1) = some r := by first | (rw [hy179]; with_reducible exact H) | (have H2_ := (Option.bind_some _ _).symm.trans H; rw [hy179]; with_reducible exact H2_) | (have H2_ := (Option.bind_some _ _).symm.trans H; with_reducible exact H2_) | with_reducible exact H | (rw [hy179]; exact H) | exact H
                      have Ny179 := Aside0.mk hy179
                      clear hy179
                      have H' := Aside0.mk H
                      clear H
                      have hnb76 := NB150_142.out
                      have hnc76 := NB142_150.out
                      have hnb77 := NB150_157.out
                      have hnc77 := NB157_150.out
                      have hnb78 := NB150_160.out
                      have hnc78 := NB160_150.out
                      have hcz79_0 : wc.cell? ⟨gb150, 0, none⟩ = some (.int .i64 t144) := (blk_cell BK150.out 0).trans rfl
                      have hcz79_1 : wc.cell? ⟨gb150, 1, none⟩ = some (.int .i64 t145) := (blk_cell BK150.out 1).trans rfl
                      have hcz79_2 : wc.cell? ⟨gb150, 2, none⟩ = some (.int .i64 t146) := (blk_cell BK150.out 2).trans rfl
                      have hcz79_3 : wc.cell? ⟨gb150, 3, none⟩ = some (.slice Ao18 t147.length co18) := (blk_cell BK150.out 3).trans rfl
                      have hfz79_0 := blk_frozen BK150.out 0
                      have hfz79_1 := blk_frozen BK150.out 1
                      have hfz79_2 := blk_frozen BK150.out 2
                      have hfz79_3 := blk_frozen BK150.out 3
                      go_wp2_with (first | ((with_reducible refine gate_builtin (b := .append) (xs := #[.tmp 78, .tmp 82]) rfl ?_); at_builtin; refine Kd.R_append (Kd.int .i64) (w0 := w) w.heap.size rfl (.tmp 78) (.tmp 82) 37 3 (.int .i64 0) 8 rfl Try.underlying37 info3 rfl (by decide) (by omega) v174 t173 (t147.length : Int) [.int .i64 (t147.length : Int)] (fun k_ => some k_ ≠ (v165 : Value).ownBlock ∧ some k_ ≠ (v168 : Value).ownBlock ∧ some k_ ≠ (u16 : Value).ownBlock) (fun _ => False) rfl rfl ?aP (fun _ hk => hk.elim) ?aF ?aO ?aB ?aS ?aL ?_; (case aP => exact rfl); (case aB => exact (by repeat (first | (with_reducible first | exact HB.out | apply below_alloc | apply pw_below_drewN | apply below_drew1 | refine below_set ?_ GE142.out | refine below_set ?_ GE150.out | refine below_set ?_ GE157.out | refine below_set ?_ GE160.out) | exact HB.out))); (case aF => exact (fun k_ hk => ⟨Kd.fresh' (Kd.R_lt (by (with_reducible repeat (first | apply Kd.R_alloc | apply Kd.R_drewN | apply Kd.R_drew)); exact HO_14.out)) k_ hk, Kd.fresh' (Kd.R_lt (by (with_reducible repeat (first | apply Kd.R_alloc | apply Kd.R_drewN | apply Kd.R_drew)); exact HO_15.out)) k_ hk, Kd.fresh' (Kd.R_lt (by (with_reducible repeat (first | apply Kd.R_alloc | apply Kd.R_drewN | apply Kd.R_drew)); exact HO_16.out)) k_ hk⟩)); (case aO => exact (by (with_reducible repeat (first | apply Kd.R_alloc | apply Kd.R_drewN | apply Kd.R_drew)); exact HO_17.out)); (case aS => exact (below_size (by repeat (first | (with_reducible first | exact HB.out | apply below_alloc | apply pw_below_drewN | apply below_drew1 | refine below_set ?_ GE142.out | refine below_set ?_ GE150.out | refine below_set ?_ GE157.out | refine below_set ?_ GE160.out) | exact HB.out)))); (case aL => have := LMc75.out; omega); intro v180 w80 ho hb hg hat; rw [← Ny179.out] at ho; have n0_ := Aside0.mk (Kd.R_after (ok := (fun k_ => some k_ ≠ (v168 : Value).ownBlock ∧ some k_ ≠ (u16 : Value).ownBlock)) (by (with_reducible repeat (first | apply Kd.R_alloc | apply Kd.R_drewN | apply Kd.R_drew)); exact Kd.R_mono HO_14.out (fun _ hk => ⟨⟨hk.1, hk.2.1⟩, hk.2.2⟩)) hg hat); have n1_ := Aside0.mk (Kd.R_after (ok := (fun k_ => some k_ ≠ (v165 : Value).ownBlock ∧ some k_ ≠ (u16 : Value).ownBlock)) (by (with_reducible repeat (first | apply Kd.R_alloc | apply Kd.R_drewN | apply Kd.R_drew)); exact Kd.R_mono HO_15.out (fun _ hk => ⟨⟨hk.1, hk.2.1⟩, hk.2.2⟩)) hg hat); have n2_ := Aside0.mk (Kd.R_after (ok := (fun k_ => some k_ ≠ (v165 : Value).ownBlock ∧ some k_ ≠ (v168 : Value).ownBlock)) (by (with_reducible repeat (first | apply Kd.R_alloc | apply Kd.R_drewN | apply Kd.R_drew)); exact Kd.R_mono HO_16.out (fun _ hk => ⟨⟨hk.1, hk.2.1⟩, hk.2.2⟩)) hg hat); have n3_ := Aside0.mk (Kd.R_over' (by (with_reducible repeat (first | apply Kd.R_alloc | apply Kd.R_drewN | apply Kd.R_drew)); exact HO_151003.out) (Kd.R_typed (by (with_reducible repeat (first | apply Kd.R_alloc | apply Kd.R_drewN | apply Kd.R_drew)); exact HO_17.out)) (by decide) hg); have n4_ := Aside0.mk (Kd.R_over' (by (with_reducible repeat (first | apply Kd.R_alloc | apply Kd.R_drewN | apply Kd.R_drew)); exact HO_158003.out) (Kd.R_typed (by (with_reducible repeat (first | apply Kd.R_alloc | apply Kd.R_drewN | apply Kd.R_drew)); exact HO_17.out)) (by decide) hg); have n5_ := Aside0.mk (blk_grown (g := gb142) (o := .cells #[.int .i64 a3_0, .int .i64 a3_1, .int .i64 a3_2] 41 (0, 0)) (by (with_reducible repeat (first | refine blk_drewN ?_ _ | refine blk_drew ?_ | refine blk_alloc ?_ _)); exact BK142.out) hg (Kd.R_ne HO_17.out BK142.out (by decide))); have n6_ := Aside0.mk (blk_grown (g := gb150) (o := .cells #[.int .i64 t144, .int .i64 t145, .int .i64 t146, .slice Ao18 t147.length co18] 26 (0, 0)) (by (with_reducible repeat (first | refine blk_drewN ?_ _ | refine blk_drew ?_ | refine blk_alloc ?_ _)); exact BK150.out) hg (Kd.R_ne HO_17.out BK150.out (by decide))); have n7_ := Aside0.mk (blk_grown (g := gb157) (o := .cells #[.int .i64 t151, .int .i64 t152, .int .i64 t153, .slice Ao38 y161.length co38] 26 (0, 0)) (by (with_reducible repeat (first | refine blk_drewN ?_ _ | refine blk_drew ?_ | refine blk_alloc ?_ _)); exact BK157.out) hg (Kd.R_ne HO_17.out BK157.out (by decide))); have n8_ := Aside0.mk (blk_grown (g := gb160) (o := .cells #[.int .i64 (wrap64 (1 + t158)), .int .i64 (wrap64 (1 + t159)), .int .i64 1] 28 (0, 0)) (by (with_reducible repeat (first | refine blk_drewN ?_ _ | refine blk_drew ?_ | refine blk_alloc ?_ _)); exact BK160.out) hg (Kd.R_ne HO_17.out BK160.out (by decide))); have n9_ := Aside0.mk (hb); have n10_ := Aside0.mk (ho); clear HO_14; clear HO_15; clear HO_16; clear HO_151003; clear HO_158003; clear BK142; clear BK150; clear BK157; clear BK160; clear HB; clear HO_17; have HO_14 := n0_; have HO_15 := n1_; have HO_16 := n2_; have HO_151003 := n3_; have HO_158003 := n4_; have BK142 := n5_; have BK150 := n6_; have BK157 := n7_; have BK160 := n8_; have HB := n9_; have HO181 := n10_; clear n0_ n1_ n2_ n3_ n4_ n5_ n6_ n7_ n8_ n9_ n10_; clear ho hb hg hat))
                      go_meet
                      case rel => exact ⟨_, (y179), H', ⟨by have := HK1.out; have := HJ44.out; first | omega | exact Nat.le_refl _⟩, ⟨by (with_reducible repeat (first | apply Kd.R_alloc | apply Kd.R_drewN | apply Kd.R_drew)); exact Kd.R_mono HO_14.out (fun _ hk => ⟨hk.1.1, ⟨hk.1.2, hk.2⟩⟩)⟩, ⟨by (with_reducible repeat (first | apply Kd.R_alloc | apply Kd.R_drewN | apply Kd.R_drew)); exact Kd.R_mono HO_15.out (fun _ hk => ⟨hk.1.1, ⟨hk.1.2, hk.2⟩⟩)⟩, ⟨by (with_reducible repeat (first | apply Kd.R_alloc | apply Kd.R_drewN | apply Kd.R_drew)); exact Kd.R_mono HO_16.out (fun _ hk => ⟨hk.1.1, ⟨hk.1.2, hk.2⟩⟩)⟩, ⟨by (with_reducible repeat (first | apply Kd.R_alloc | apply Kd.R_drewN | apply Kd.R_drew)); exact HO181.out⟩, ⟨by (with_reducible repeat (first | apply Kd.R_alloc | apply Kd.R_drewN | apply Kd.R_drew)); exact HO_151003.out⟩, ⟨by (with_reducible repeat (first | apply Kd.R_alloc | apply Kd.R_drewN | apply Kd.R_drew)); exact HO_158003.out⟩, ⟨by (with_reducible repeat (first | refine blk_drewN ?_ _ | refine blk_drew ?_ | refine blk_alloc ?_ _)); exact BK142.out⟩, ⟨by (with_reducible repeat (first | refine blk_drewN ?_ _ | refine blk_drew ?_ | refine blk_alloc ?_ _)); exact BK150.out⟩, ⟨by (with_reducible repeat (first | refine blk_drewN ?_ _ | refine blk_drew ?_ | refine blk_alloc ?_ _)); exact BK157.out⟩, ⟨by (with_reducible repeat (first | refine blk_drewN ?_ _ | refine blk_drew ?_ | refine blk_alloc ?_ _)); exact BK160.out⟩, ⟨by repeat (first | (with_reducible first | exact HB.out | apply below_alloc | apply pw_below_drewN | apply below_drew1 | refine below_set ?_ GE142.out | refine below_set ?_ GE150.out | refine below_set ?_ GE157.out | refine below_set ?_ GE160.out) | exact HB.out)⟩⟩
                    · rw [if_neg c75] at H
                      exact absurd H (by simp)
                  · rw [if_neg c74] at H
                    have c74b0 : (x13_1 == (wrap64 (1 + t159))) = false := beq_eq_false_iff_ne.mpr c74
                    have c74b1 : (x13_1 != (wrap64 (1 + t159))) = true := bne_iff_ne.mpr c74
                    (first | rw [c74b0] | (simp only [i64_w, i32_w]; rw [c74b0]) | skip)
                    have H' := Aside0.mk H
                    clear H
                    go_wp2
                    go_meet
                    case rel => exact ⟨_, (t173), H', ⟨by have := HK1.out; have := HJ44.out; first | omega | exact Nat.le_refl _⟩, ⟨by (with_reducible repeat (first | apply Kd.R_alloc | apply Kd.R_drewN | apply Kd.R_drew)); exact HO_14.out⟩, ⟨by (with_reducible repeat (first | apply Kd.R_alloc | apply Kd.R_drewN | apply Kd.R_drew)); exact HO_15.out⟩, ⟨by (with_reducible repeat (first | apply Kd.R_alloc | apply Kd.R_drewN | apply Kd.R_drew)); exact HO_16.out⟩, ⟨by (with_reducible repeat (first | apply Kd.R_alloc | apply Kd.R_drewN | apply Kd.R_drew)); exact HO_17.out⟩, ⟨by (with_reducible repeat (first | apply Kd.R_alloc | apply Kd.R_drewN | apply Kd.R_drew)); exact HO_151003.out⟩, ⟨by (with_reducible repeat (first | apply Kd.R_alloc | apply Kd.R_drewN | apply Kd.R_drew)); exact HO_158003.out⟩, ⟨by (with_reducible repeat (first | refine blk_drewN ?_ _ | refine blk_drew ?_ | refine blk_alloc ?_ _)); exact BK142.out⟩, ⟨by (with_reducible repeat (first | refine blk_drewN ?_ _ | refine blk_drew ?_ | refine blk_alloc ?_ _)); exact BK150.out⟩, ⟨by (with_reducible repeat (first | refine blk_drewN ?_ _ | refine blk_drew ?_ | refine blk_alloc ?_ _)); exact BK157.out⟩, ⟨by (with_reducible repeat (first | refine blk_drewN ?_ _ | refine blk_drew ?_ | refine blk_alloc ?_ _)); exact BK160.out⟩, ⟨by repeat (first | (with_reducible first | exact HB.out | apply below_alloc | apply pw_below_drewN | apply below_drew1 | refine below_set ?_ GE142.out | refine below_set ?_ GE150.out | refine below_set ?_ GE157.out | refine below_set ?_ GE160.out) | exact HB.out)⟩⟩
                case rest =>
                  clear HC69
                  try clear c1
                  try clear c2
                  try clear p2
                  try clear c3
                  try clear c4
                  try clear c5
                  try clear c6
                  try clear p6
                  try clear c7
                  try clear c11
                  try clear c14
                  try clear c15
                  try clear c16
                  try clear c17
                  try clear c18
                  try clear c21
                  try clear c22
                  try clear c32
                  try clear c34
                  try clear c35
                  try clear c40
                  try clear c40b0
                  try clear c46
                  try clear c47
                  try clear c48
                  try clear c50
                  try clear c51
                  try clear c60
                  try clear c62
                  try clear c62b0
                  try clear c62b1
                  try clear c63
                  try clear c64
                  try clear p64
                  try clear c65
                  try clear c66
                  try clear c70
                  try clear c71
                  try clear c72
                  try clear c74
                  try clear c74b0
                  try clear c74b1
                  try clear c75
                  try clear c76
                  try clear c77
                  try clear c78
                  try clear hcz17_0
                  try clear hcz17_1
                  try clear hcz17_2
                  try clear hcz17_3
                  try clear hcz23_0
                  try clear hcz23_1
                  try clear hcz23_2
                  try clear hcz23_3
                  try clear hcz33_0
                  try clear hcz33_1
                  try clear hcz33_2
                  try clear hcz33_3
                  try clear hcz36_0
                  try clear hcz36_1
                  try clear hcz36_2
                  try clear hcz39_0
                  try clear hcz39_1
                  try clear hcz39_2
                  try clear hcz39_3
                  try clear hcz49_0
                  try clear hcz49_1
                  try clear hcz49_2
                  try clear hcz49_3
                  try clear hcz52_0
                  try clear hcz52_1
                  try clear hcz52_2
                  try clear hcz52_3
                  try clear hcz54_0
                  try clear hcz54_1
                  try clear hcz54_2
                  try clear hcz54_3
                  try clear hcz56_0
                  try clear hcz56_1
                  try clear hcz56_2
                  try clear hcz56_3
                  try clear hcz58_0
                  try clear hcz58_1
                  try clear hcz58_2
                  try clear hcz58_3
                  try clear hcz61_0
                  try clear hcz61_1
                  try clear hcz61_2
                  try clear hcz67_0
                  try clear hcz67_1
                  try clear hcz67_2
                  try clear hcz67_3
                  try clear hcz73_0
                  try clear hcz73_1
                  try clear hcz73_2
                  try clear hcz79_0
                  try clear hcz79_1
                  try clear hcz79_2
                  try clear hcz79_3
                  try clear hfz17_0
                  try clear hfz17_1
                  try clear hfz17_2
                  try clear hfz17_3
                  try clear hfz23_0
                  try clear hfz23_1
                  try clear hfz23_2
                  try clear hfz23_3
                  try clear hfz33_0
                  try clear hfz33_1
                  try clear hfz33_2
                  try clear hfz33_3
                  try clear hfz36_0
                  try clear hfz36_1
                  try clear hfz36_2
                  try clear hfz39_0
                  try clear hfz39_1
                  try clear hfz39_2
                  try clear hfz39_3
                  try clear hfz49_0
                  try clear hfz49_1
                  try clear hfz49_2
                  try clear hfz49_3
                  try clear hfz52_0
                  try clear hfz52_1
                  try clear hfz52_2
                  try clear hfz52_3
                  try clear hfz54_0
                  try clear hfz54_1
                  try clear hfz54_2
                  try clear hfz54_3
                  try clear hfz56_0
                  try clear hfz56_1
                  try clear hfz56_2
                  try clear hfz56_3
                  try clear hfz58_0
                  try clear hfz58_1
                  try clear hfz58_2
                  try clear hfz58_3
                  try clear hfz61_0
                  try clear hfz61_1
                  try clear hfz61_2
                  try clear hfz67_0
                  try clear hfz67_1
                  try clear hfz67_2
                  try clear hfz67_3
                  try clear hfz73_0
                  try clear hfz73_1
                  try clear hfz73_2
                  try clear hfz79_0
                  try clear hfz79_1
                  try clear hfz79_2
                  try clear hfz79_3
                  try clear p2
                  try clear p6
                  try clear p64
                  obtain ⟨kq, x17_68, HA, HJ68, HO_14, HO_15, HO_16, HO_17, HO_151003, HO_158003, BK142, BK150, BK157, BK160, HB⟩ := hcut
                  cases kq with
                  | zero => exact absurd HA.out (by simp [racewaylaw3_NetDegrees.j2])
                  | succ kj68 =>
                    have H := HA.out
                    clear HA
                    simp only [racewaylaw3_NetDegrees.j2] at H
                    replace H := Option.bind_eq_some_iff.mp H
                    obtain ⟨t182, A810, H⟩ := H
                    replace H : (if t182 = true then ((racewaylaw3_same.f kj68 t167 x17_68).bind fun t183 => (if t183 = true then (racewaylaw3_NetDegrees.l0 kj68 (wrap64 (x13_1 + 1)) t144 t145 t146 t147 t151 t152 t153 y161 (wrap64 (1 + t158)) (wrap64 (1 + t159)) 1) else (some false))) else (some false)) = some r := H
                    have A81 := Aside0.mk A810
                    clear A810
                    by_cases c82 : t182 = true
                    · subst c82
                      have H1 : ((racewaylaw3_same.f kj68 t167 x17_68).bind fun t183 => (if t183 = true then (racewaylaw3_NetDegrees.l0 kj68 (wrap64 (x13_1 + 1)) t144 t145 t146 t147 t151 t152 t153 y161 (wrap64 (1 + t158)) (wrap64 (1 + t159)) 1) else (some false))) = some r := by rw [if_pos rfl] at H; exact H
                      clear H
                      have H := H1
                      clear H1
                      replace H := Option.bind_eq_some_iff.mp H
                      obtain ⟨t183, A830, H⟩ := H
                      replace H : (if t183 = true then (racewaylaw3_NetDegrees.l0 kj68 (wrap64 (x13_1 + 1)) t144 t145 t146 t147 t151 t152 t153 y161 (wrap64 (1 + t158)) (wrap64 (1 + t159)) 1) else (some false)) = some r := H
                      have A83 := Aside0.mk A830
                      clear A830
                      by_cases c84 : t183 = true
                      · subst c84
                        have H1 : (racewaylaw3_NetDegrees.l0 kj68 (wrap64 (x13_1 + 1)) t144 t145 t146 t147 t151 t152 t153 y161 (wrap64 (1 + t158)) (wrap64 (1 + t159)) 1) = some r := by rw [if_pos rfl] at H; exact H
                        clear H
                        have H := H1
                        clear H1
                        have H' := Aside0.mk H
                        clear H
                        obtain ⟨Ao85, co85, eo85⟩ := Kd.R_slice HO_14.out
                        subst eo85
                        obtain ⟨Ao86, co86, eo86⟩ := Kd.R_slice HO_16.out
                        subst eo86
                        go_wp2_with (first | ((with_reducible refine gate_callee (f := 23) rfl ?_); refine goesL_ (some 86) rfl rfl Try.func23 (by kernel_rfl) rfl #[.slice Ao85 t164.length co85, .slice Ao86 x16_44.length co86] rfl (by (try simp only [List.map_toArray, List.map_cons, List.map_nil]); first | done | rfl | (simp only [List.length_drop, List.length_take]; rfl)) ?_; (with_reducible refine (racewaylaw3_same.calls kj68 _ _ t164 _ _ x16_44 true _ ?side1 ?side2 ?side3 ?side4 A81.out).mono ?_); (case side1 => repeat (first | exact (Kd.R_reads' HO_14.out).2.2 | (with_reducible refine Kd.C_alloc ?_ _) | (with_reducible refine Kd.C_drewN ?_ _) | (with_reducible refine Kd.C_drew ?_))); (case side2 => exact (Kd.R_reads' HO_14.out).2.1); (case side3 => repeat (first | exact (Kd.R_reads' HO_16.out).2.2 | (with_reducible refine Kd.C_alloc ?_ _) | (with_reducible refine Kd.C_drewN ?_ _) | (with_reducible refine Kd.C_drew ?_))); (case side4 => exact (Kd.R_reads' HO_16.out).2.1); rintro e w' ⟨rfl, ⟨nd, rfl⟩⟩; refine ⟨_, rfl, ?_⟩; obtain ⟨Ao87, co87, eo87⟩ := Kd.R_slice HO_15.out; subst eo87; obtain ⟨Ao88, co88, eo88⟩ := Kd.R_slice HO_17.out; subst eo88) | (go_at_call 23; (with_reducible refine (racewaylaw3_same.calls kj68 _ _ t167 _ _ x17_68 true _ ?side1 ?side2 ?side3 ?side4 A83.out).mono ?_); (case side1 => repeat (first | exact (Kd.R_reads' HO_15.out).2.2 | (with_reducible refine Kd.C_alloc ?_ _) | (with_reducible refine Kd.C_drewN ?_ _) | (with_reducible refine Kd.C_drew ?_))); (case side2 => exact (Kd.R_reads' HO_15.out).2.1); (case side3 => repeat (first | exact (Kd.R_reads' HO_17.out).2.2 | (with_reducible refine Kd.C_alloc ?_ _) | (with_reducible refine Kd.C_drewN ?_ _) | (with_reducible refine Kd.C_drew ?_))); (case side4 => exact (Kd.R_reads' HO_17.out).2.1); rintro e w' ⟨rfl, ⟨nd, rfl⟩⟩))
                        go_roundg kj68
                        case measure => have := HK1.out; have := HJ44.out; have := HJ68.out; omega
                        case rel => exact ⟨(wrap64 (x13_1 + 1)), (by first | rfl | (simp; done) | (simp [*]; done)), H', ⟨by have := HK1.out; have := HJ44.out; have := HJ68.out; omega⟩, ⟨by (with_reducible repeat (first | apply Kd.R_alloc | apply Kd.R_drewN | apply Kd.R_drew)); exact HO_151003.out⟩, ⟨by (with_reducible repeat (first | apply Kd.R_alloc | apply Kd.R_drewN | apply Kd.R_drew)); exact HO_158003.out⟩, ⟨by (with_reducible repeat (first | refine blk_drewN ?_ _ | refine blk_drew ?_ | refine blk_alloc ?_ _)); exact BK142.out⟩, ⟨by (with_reducible repeat (first | refine blk_drewN ?_ _ | refine blk_drew ?_ | refine blk_alloc ?_ _)); exact BK150.out⟩, ⟨by (with_reducible repeat (first | refine blk_drewN ?_ _ | refine blk_drew ?_ | refine blk_alloc ?_ _)); exact BK157.out⟩, ⟨by (with_reducible repeat (first | refine blk_drewN ?_ _ | refine blk_drew ?_ | refine blk_alloc ?_ _)); exact BK160.out⟩, ⟨by repeat (first | (with_reducible first | exact HB.out | apply below_alloc | apply pw_below_drewN | apply below_drew1 | refine below_set ?_ GE142.out | refine below_set ?_ GE150.out | refine below_set ?_ GE157.out | refine below_set ?_ GE160.out) | exact HB.out)⟩⟩
                      · replace c84 := Bool.eq_false_iff.mpr c84
                        subst c84
                        have H1 : (some false) = some r := by rw [if_neg (show ¬ (false = true) by decide)] at H; exact H
                        clear H
                        have H := H1
                        clear H1
                        exact absurd ((Option.some.inj H).trans hrT_.out) (by simp)
                    · replace c82 := Bool.eq_false_iff.mpr c82
                      subst c82
                      have H1 : (some false) = some r := by rw [if_neg (show ¬ (false = true) by decide)] at H; exact H
                      clear H
                      have H := H1
                      clear H1
                      exact absurd ((Option.some.inj H).trans hrT_.out) (by simp)
          · rw [if_neg c40] at H
            have c40b0 : decide (x13_1 ≤ t144) = false := decide_eq_false c40
            clear c40
            obtain rfl := Option.some.inj H
            have hnb89 := NB150_142.out
            have hnc89 := NB142_150.out
            have hnb90 := NB150_157.out
            have hnc90 := NB157_150.out
            have hnb91 := NB150_160.out
            have hnc91 := NB160_150.out
            have hcz92_0 : wr.cell? ⟨gb150, 0, none⟩ = some (.int .i64 t144) := (blk_cell BK150.out 0).trans rfl
            have hcz92_1 : wr.cell? ⟨gb150, 1, none⟩ = some (.int .i64 t145) := (blk_cell BK150.out 1).trans rfl
            have hcz92_2 : wr.cell? ⟨gb150, 2, none⟩ = some (.int .i64 t146) := (blk_cell BK150.out 2).trans rfl
            have hcz92_3 : wr.cell? ⟨gb150, 3, none⟩ = some (.slice Ao18 t147.length co18) := (blk_cell BK150.out 3).trans rfl
            have hfz92_0 := blk_frozen BK150.out 0
            have hfz92_1 := blk_frozen BK150.out 1
            have hfz92_2 := blk_frozen BK150.out 2
            have hfz92_3 := blk_frozen BK150.out 3
            go_wp2
            go_ret
            exact ⟨by first | rfl | (simp [errW_none, errW_some] <;> rfl) | (simp [*, errW_none, errW_some] <;> rfl), by repeat (first | (with_reducible first | exact HB.out | apply below_alloc | apply pw_below_drewN | apply below_drew1 | refine below_set ?_ GE142.out | refine below_set ?_ GE150.out | refine below_set ?_ GE157.out | refine below_set ?_ GE160.out) | exact HB.out)⟩
    · rw [if_neg c11] at H
      exact absurd H (by simp)
  · replace c6 := Bool.eq_false_iff.mpr c6
    subst c6
    have H1 : (some false) = some r := by rw [if_neg (show ¬ (false = true) by decide)] at H; exact H
    clear H
    have H := H1
    clear H1
    exact absurd ((Option.some.inj H).trans hrT_.out) (by simp)

/-- THE ONE PURE STATEMENT of racewaylaw3_NetDegrees. -/
def racewaylaw3_NetDegrees.Pure : Prop := ∀ (a0 : Int) (a1 : Int) (l2 : List (S41)) (a3_0 : Int) (a3_1 : Int) (a3_2 : Int), (Lit.int .i64 a0).wf = true → (Lit.int .i64 a1).wf = true → l2.length ≤ maxLen → (∀ x ∈ l2, (Lit.int .i64 x.f0).wf = true ∧ (Lit.int .i64 x.f1).wf = true ∧ (Lit.int .i64 x.f2).wf = true) → (Lit.int .i64 a3_0).wf = true → (Lit.int .i64 a3_1).wf = true → (Lit.int .i64 a3_2).wf = true → ∃ k, racewaylaw3_NetDegrees.f k a0 a1 l2 a3_0 a3_1 a3_2 = some true
theorem racewaylaw3_NetDegrees.walk (P : racewaylaw3_NetDegrees.Pure) (a0 : Int) (a1 : Int) (A2 : Option Addr) (c2 : Nat) (l2 : List (S41)) (a3_0 : Int) (a3_1 : Int) (a3_2 : Int) (w : World) (w0 : (Lit.int .i64 a0).wf = true) (w1 : (Lit.int .i64 a1).wf = true) (hr2 : Kd.C k41 w A2 l2.length l2) (hc2 : l2.length ≤ c2) (hm2 : l2.length ≤ maxLen) (hw2 : (∀ x ∈ l2, (Lit.int .i64 x.f0).wf = true ∧ (Lit.int .i64 x.f1).wf = true ∧ (Lit.int .i64 x.f2).wf = true)) (w3_0 : (Lit.int .i64 a3_0).wf = true) (w3_1 : (Lit.int .i64 a3_1).wf = true) (w3_2 : (Lit.int .i64 a3_2).wf = true) :
    Calls Try.prog 7 #[.int .i64 a0, .int .i64 a1, .slice A2 l2.length c2, .agg #[.int .i64 a3_0, .int .i64 a3_1, .int .i64 a3_2]] w fun e w' => e = .returned (.bool true) ∧ Below w.heap.size w w' := by
  obtain ⟨k, h⟩ := P a0 a1 l2 a3_0 a3_1 a3_2 w0 w1 hm2 hw2 w3_0 w3_1 w3_2
  refine (racewaylaw3_NetDegrees.calls k a0 a1 _ _ l2 a3_0 a3_1 a3_2 true w hr2 hc2 h ⟨rfl⟩).mono ?_
  rintro e w' ⟨rfl, hd⟩
  exact ⟨rfl, hd⟩

end Go.Proofs.Ytjbeofcgnnlllaa.PNetDegrees
