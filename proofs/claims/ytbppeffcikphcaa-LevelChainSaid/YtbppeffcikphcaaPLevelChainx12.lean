/- For the claim that the law LevelChain of the given program holds for every input: a text written by a program (wip/myprint over the kit's print), with contracts by hand where it says MANUAL. -/
import Derived.Test.YtbppeffcikphcaaPLevelChainx0
import Derived.Test.YtbppeffcikphcaaPLevelChainx8
import Derived.Test.YtbppeffcikphcaaPLevelChainx9
import Derived.Test.YtbppeffcikphcaaPLevelChainx10
import Derived.Test.YtbppeffcikphcaaPLevelChainx11
namespace Go.Proofs.Ytbppeffcikphcaa.PLevelChain
open Go.RowKit Go.Proofs.YtbppeffcikphcaaW.PrintWords Go.Proofs.YtbppeffcikphcaaW.PrintLast Go.Proofs.YtbppeffcikphcaaW.PrintMore
attribute [local go_sem] max2_int min2_int max_two min_two max_three min_three max_four min_four   -- for this text's walks alone
set_option linter.unusedVariables false
set_option linter.unusedSimpArgs false

/-! ### racewaylaw7_LevelChain: function 6 -/
mutual
def racewaylaw7_LevelChain.j0 : Nat → List Int → Int → Bool → Bool → Option (Bool)
  | 0, _, _, _, _ => none
  | k + 1, x0, x1, x5, x29 => if x29 = true then (some x5) else ((racewaylaw7_pick.f x1 9).bind fun t159 => (racewaylaw7_LevelChain.l0 k x0 (wrap64 (1 + t159)) (x0.length : Int) 0 (wrap64 ((x0.length : Int) + 1)) 1 (wrap64 ((x0.length : Int) + 1)) ([] : List (S49))))
def racewaylaw7_LevelChain.l0 : Nat → List Int → Int → Int → Int → Int → Int → Int → List (S49) → Option (Bool)
  | 0, _, _, _, _, _, _, _, _ => none
  | k + 1, x0, x7, x8, x9, x159000, x159001, x159002, x159003 => if x9 < (x0.length : Int) then (if 0 ≤ x9 then ((racewaylaw7_pick.f (rd x0 x9) 20).bind fun t161 => (if x159003.length < 5864062014805 then ((some (x159003 ++ [(⟨wrap64 (x9 + 1), wrap64 (x9 + 2), t161⟩ : S49)] : List (S49))).bind fun y162 => (if t161 < x7 then (racewaylaw7_LevelChain.l0 k x0 x7 (mn x8 x9) (wrap64 (x9 + 1)) x159000 x159001 x159002 y162) else (racewaylaw7_LevelChain.l0 k x0 x7 x8 (wrap64 (x9 + 1)) x159000 x159001 x159002 y162))) else (none))) else (none)) else (if 0 ≤ (x0.length : Int) then (if ((x0.length : Int) : Int).toNat ≤ 35184372088832 then ((level_Levels.f k x159000 x159001 x159002 x159003 (List.replicate ((x0.length : Int) : Int).toNat 0) x7).bind fun bt168 => ((level_Leads.f k x159000 x159001 x159002 x159003 (List.replicate ((x0.length : Int) : Int).toNat 0) x7).bind fun bt175 => (if bt168.2 = 0 then (if bt175.2 = 0 then (racewaylaw7_LevelChain.j2 k x8 bt168.1 ((bt175.1.length : Int) != x8) x159000 x159001 x159002 x159003) else (racewaylaw7_LevelChain.j2 k x8 bt168.1 true x159000 x159001 x159002 x159003)) else (racewaylaw7_LevelChain.j2 k x8 bt168.1 true x159000 x159001 x159002 x159003)))) else (none)) else (none))
def racewaylaw7_LevelChain.j2 : Nat → Int → List Int → Bool → Int → Int → Int → List (S49) → Option (Bool)
  | 0, _, _, _, _, _, _, _ => none
  | k + 1, x8, x11, x100, x159000, x159001, x159002, x159003 => if x100 = true then (some false) else (racewaylaw7_LevelChain.l1 k x8 x11 1 x159000 x159001 x159002 x159003)
def racewaylaw7_LevelChain.l1 : Nat → Int → List Int → Int → Int → Int → Int → List (S49) → Option (Bool)
  | 0, _, _, _, _, _, _, _ => none
  | k + 1, x8, x11, x15, x159000, x159001, x159002, x159003 => if x15 ≤ x159000 then (if (wrap64 (x15 - 1)) > x8 then (if 0 ≤ x15 then (if x15 < (x11.length : Int) then (if (rd x11 x15) = (-1) then (racewaylaw7_LevelChain.l1 k x8 x11 (wrap64 (x15 + 1)) x159000 x159001 x159002 x159003) else (some false)) else (none)) else (none)) else (if 0 ≤ x15 then (if x15 < (x11.length : Int) then (if (rd x11 x15) = (wrap64 (x15 - 1)) then (racewaylaw7_LevelChain.l1 k x8 x11 (wrap64 (x15 + 1)) x159000 x159001 x159002 x159003) else (some false)) else (none)) else (none))) else (some true)
end
def racewaylaw7_LevelChain.f (k : Nat) (l0 : List Int) (a1 : Int) : Option (Bool) := (racewaylaw7_shown.f k).bind fun t157 => (if t157 = true then (if (l0.length : Int) = 0 then (racewaylaw7_LevelChain.j0 k l0 a1 t157 true) else (racewaylaw7_LevelChain.j0 k l0 a1 t157 (decide ((l0.length : Int) > 100)))) else (racewaylaw7_LevelChain.j0 k l0 a1 t157 true))
theorem racewaylaw7_LevelChain.mono_l : ∀ k, (∀ y0 y1 y2 y3, LeO (racewaylaw7_LevelChain.j0 k y0 y1 y2 y3) (racewaylaw7_LevelChain.j0 (k + 1) y0 y1 y2 y3)) ∧ (∀ y0 y1 y2 y3 y4 y5 y6 y7, LeO (racewaylaw7_LevelChain.l0 k y0 y1 y2 y3 y4 y5 y6 y7) (racewaylaw7_LevelChain.l0 (k + 1) y0 y1 y2 y3 y4 y5 y6 y7)) ∧ (∀ y0 y1 y2 y3 y4 y5 y6, LeO (racewaylaw7_LevelChain.j2 k y0 y1 y2 y3 y4 y5 y6) (racewaylaw7_LevelChain.j2 (k + 1) y0 y1 y2 y3 y4 y5 y6)) ∧ (∀ y0 y1 y2 y3 y4 y5 y6, LeO (racewaylaw7_LevelChain.l1 k y0 y1 y2 y3 y4 y5 y6) (racewaylaw7_LevelChain.l1 (k + 1) y0 y1 y2 y3 y4 y5 y6))
  | 0 => ⟨fun _ _ _ _ r h => by simp [racewaylaw7_LevelChain.j0] at h, fun _ _ _ _ _ _ _ _ r h => by simp [racewaylaw7_LevelChain.l0] at h, fun _ _ _ _ _ _ _ r h => by simp [racewaylaw7_LevelChain.j2] at h, fun _ _ _ _ _ _ _ r h => by simp [racewaylaw7_LevelChain.l1] at h⟩
  | k + 1 => by
    obtain ⟨ih0, ih1, ih2, ih3⟩ := racewaylaw7_LevelChain.mono_l k
    refine ⟨?_, ?_, ?_, ?_⟩
    · intro y0 y1 y2 y3
      unfold racewaylaw7_LevelChain.j0
      repeat' first
      | (with_reducible exact ih0 _ _ _ _)
      | (with_reducible exact ih1 _ _ _ _ _ _ _ _)
      | (with_reducible exact ih2 _ _ _ _ _ _ _)
      | (with_reducible exact ih3 _ _ _ _ _ _ _)
      | (with_reducible exact level_Leads.mono _ _ _ _ _ _ _)
      | (with_reducible exact level_Levels.mono _ _ _ _ _ _ _)
      | (with_reducible exact racewaylaw7_shown.mono _)
      | (with_reducible exact LeO.refl _)
      | (with_reducible exact LeO.none _)
      | (with_reducible refine LeO.ite ?_ ?_)
      | (with_reducible refine LeO.bind ?_ (fun _ => ?_))
      | exact ih0 _ _ _ _
      | exact ih1 _ _ _ _ _ _ _ _
      | exact ih2 _ _ _ _ _ _ _
      | exact ih3 _ _ _ _ _ _ _
      | exact level_Leads.mono _ _ _ _ _ _ _
      | exact level_Levels.mono _ _ _ _ _ _ _
      | exact racewaylaw7_shown.mono _
      | exact LeO.none _
      | refine LeO.ite ?_ ?_
      | refine LeO.bind ?_ (fun _ => ?_)
    · intro y0 y1 y2 y3 y4 y5 y6 y7
      unfold racewaylaw7_LevelChain.l0
      repeat' first
      | (with_reducible exact ih0 _ _ _ _)
      | (with_reducible exact ih1 _ _ _ _ _ _ _ _)
      | (with_reducible exact ih2 _ _ _ _ _ _ _)
      | (with_reducible exact ih3 _ _ _ _ _ _ _)
      | (with_reducible exact level_Leads.mono _ _ _ _ _ _ _)
      | (with_reducible exact level_Levels.mono _ _ _ _ _ _ _)
      | (with_reducible exact racewaylaw7_shown.mono _)
      | (with_reducible exact LeO.refl _)
      | (with_reducible exact LeO.none _)
      | (with_reducible refine LeO.ite ?_ ?_)
      | (with_reducible refine LeO.bind ?_ (fun _ => ?_))
      | exact ih0 _ _ _ _
      | exact ih1 _ _ _ _ _ _ _ _
      | exact ih2 _ _ _ _ _ _ _
      | exact ih3 _ _ _ _ _ _ _
      | exact level_Leads.mono _ _ _ _ _ _ _
      | exact level_Levels.mono _ _ _ _ _ _ _
      | exact racewaylaw7_shown.mono _
      | exact LeO.none _
      | refine LeO.ite ?_ ?_
      | refine LeO.bind ?_ (fun _ => ?_)
    · intro y0 y1 y2 y3 y4 y5 y6
      unfold racewaylaw7_LevelChain.j2
      repeat' first
      | (with_reducible exact ih0 _ _ _ _)
      | (with_reducible exact ih1 _ _ _ _ _ _ _ _)
      | (with_reducible exact ih2 _ _ _ _ _ _ _)
      | (with_reducible exact ih3 _ _ _ _ _ _ _)
      | (with_reducible exact level_Leads.mono _ _ _ _ _ _ _)
      | (with_reducible exact level_Levels.mono _ _ _ _ _ _ _)
      | (with_reducible exact racewaylaw7_shown.mono _)
      | (with_reducible exact LeO.refl _)
      | (with_reducible exact LeO.none _)
      | (with_reducible refine LeO.ite ?_ ?_)
      | (with_reducible refine LeO.bind ?_ (fun _ => ?_))
      | exact ih0 _ _ _ _
      | exact ih1 _ _ _ _ _ _ _ _
      | exact ih2 _ _ _ _ _ _ _
      | exact ih3 _ _ _ _ _ _ _
      | exact level_Leads.mono _ _ _ _ _ _ _
      | exact level_Levels.mono _ _ _ _ _ _ _
      | exact racewaylaw7_shown.mono _
      | exact LeO.none _
      | refine LeO.ite ?_ ?_
      | refine LeO.bind ?_ (fun _ => ?_)
    · intro y0 y1 y2 y3 y4 y5 y6
      unfold racewaylaw7_LevelChain.l1
      repeat' first
      | (with_reducible exact ih0 _ _ _ _)
      | (with_reducible exact ih1 _ _ _ _ _ _ _ _)
      | (with_reducible exact ih2 _ _ _ _ _ _ _)
      | (with_reducible exact ih3 _ _ _ _ _ _ _)
      | (with_reducible exact level_Leads.mono _ _ _ _ _ _ _)
      | (with_reducible exact level_Levels.mono _ _ _ _ _ _ _)
      | (with_reducible exact racewaylaw7_shown.mono _)
      | (with_reducible exact LeO.refl _)
      | (with_reducible exact LeO.none _)
      | (with_reducible refine LeO.ite ?_ ?_)
      | (with_reducible refine LeO.bind ?_ (fun _ => ?_))
      | exact ih0 _ _ _ _
      | exact ih1 _ _ _ _ _ _ _ _
      | exact ih2 _ _ _ _ _ _ _
      | exact ih3 _ _ _ _ _ _ _
      | exact level_Leads.mono _ _ _ _ _ _ _
      | exact level_Levels.mono _ _ _ _ _ _ _
      | exact racewaylaw7_shown.mono _
      | exact LeO.none _
      | refine LeO.ite ?_ ?_
      | refine LeO.bind ?_ (fun _ => ?_)
theorem racewaylaw7_LevelChain.mono : ∀ a0 a1 k, LeO (racewaylaw7_LevelChain.f k a0 a1) (racewaylaw7_LevelChain.f (k + 1) a0 a1) := by
  intro a0 a1 k
  obtain ⟨ih0, ih1, ih2, ih3⟩ := racewaylaw7_LevelChain.mono_l k
  unfold racewaylaw7_LevelChain.f
  repeat' first
      | (with_reducible exact ih0 _ _ _ _)
      | (with_reducible exact ih1 _ _ _ _ _ _ _ _)
      | (with_reducible exact ih2 _ _ _ _ _ _ _)
      | (with_reducible exact ih3 _ _ _ _ _ _ _)
      | (with_reducible exact level_Leads.mono _ _ _ _ _ _ _)
      | (with_reducible exact level_Levels.mono _ _ _ _ _ _ _)
      | (with_reducible exact racewaylaw7_shown.mono _)
      | (with_reducible exact LeO.refl _)
      | (with_reducible exact LeO.none _)
      | (with_reducible refine LeO.ite ?_ ?_)
      | (with_reducible refine LeO.bind ?_ (fun _ => ?_))
      | exact ih0 _ _ _ _
      | exact ih1 _ _ _ _ _ _ _ _
      | exact ih2 _ _ _ _ _ _ _
      | exact ih3 _ _ _ _ _ _ _
      | exact level_Leads.mono _ _ _ _ _ _ _
      | exact level_Levels.mono _ _ _ _ _ _ _
      | exact racewaylaw7_shown.mono _
      | exact LeO.none _
      | refine LeO.ite ?_ ?_
      | refine LeO.bind ?_ (fun _ => ?_)
def racewaylaw7_LevelChain.T14 : Bool × List (List Nat × List Nat) := (true, [([], []), ([], []), ([1], [1]), ([2, 2], [2]), ([], []), ([0, 3, 4], [0, 3, 4]), ([5], [5]), ([6], [6]), ([6], [6]), ([7, 5, 0, 1, 2, 3, 4, 5, 6, 7], [7]), ([8, 9, 0, 1, 2, 3, 4, 5, 6, 7, 8, 9], [8])])
def racewaylaw7_LevelChain.B14 : List Nat := [0, 0, 2, 6, 0, 31, 63, 127, 127, 255, 1023]
theorem racewaylaw7_LevelChain.tab14 : rtab .any (opsOf Try.f6 14) = racewaylaw7_LevelChain.T14 := by kernel_rfl
theorem racewaylaw7_LevelChain.bits14 : waitsOk racewaylaw7_LevelChain.T14.2 racewaylaw7_LevelChain.B14 = true := by kernel_rfl
def racewaylaw7_LevelChain.T15 : Bool × List (List Nat × List Nat) := (true, [([], []), ([], []), ([1], [1]), ([2, 2], [2]), ([], []), ([0, 3, 4], [0, 3, 4]), ([5], [5]), ([6], [6]), ([6], [6]), ([7, 5, 0, 1, 2, 3, 4, 5, 6, 7], [7]), ([8, 9, 0, 1, 2, 3, 4, 5, 6, 7, 8, 9], [8])])
def racewaylaw7_LevelChain.B15 : List Nat := [0, 0, 2, 6, 0, 31, 63, 127, 127, 255, 1023]
theorem racewaylaw7_LevelChain.tab15 : rtab .any (opsOf Try.f6 15) = racewaylaw7_LevelChain.T15 := by kernel_rfl
theorem racewaylaw7_LevelChain.bits15 : waitsOk racewaylaw7_LevelChain.T15.2 racewaylaw7_LevelChain.B15 = true := by kernel_rfl
set_option maxHeartbeats 8000000 in
set_option maxRecDepth 100000 in
theorem racewaylaw7_LevelChain.calls (k : Nat) (A0 : Option Addr) (c0 : Nat) (l0 : List Int) (a1 : Int) (r : Bool) (w : World) (hr0 : Kd.C (Kd.int .i64) w A0 l0.length l0) (hc0 : l0.length ≤ c0) (h : racewaylaw7_LevelChain.f k l0 a1 = some r) (hrT_ : Aside0 (r = true)) :
    Calls Try.prog 6 #[.slice A0 l0.length c0, .int .i64 a1] w fun e w' => e = .returned (.bool r) ∧ Below w.heap.size w w' := by
  have hu27 := Try.underlying27
  have hu49 := Try.underlying49
  have HR0 := Aside0.mk hr0
  have HC0 := Aside0.mk hc0
  clear hr0 hc0
  have HB := Aside0.mk (Below.refl w.heap.size w)
  have H : ((racewaylaw7_shown.f k).bind fun t157 => (if t157 = true then (if (l0.length : Int) = 0 then (racewaylaw7_LevelChain.j0 k l0 a1 t157 true) else (racewaylaw7_LevelChain.j0 k l0 a1 t157 (decide ((l0.length : Int) > 100)))) else (racewaylaw7_LevelChain.j0 k l0 a1 t157 true))) = some r := h
  clear h
  replace H := Option.bind_eq_some_iff.mp H
  obtain ⟨t157, A30, H⟩ := H
  replace H : (if t157 = true then (if (l0.length : Int) = 0 then (racewaylaw7_LevelChain.j0 k l0 a1 t157 true) else (racewaylaw7_LevelChain.j0 k l0 a1 t157 (decide ((l0.length : Int) > 100)))) else (racewaylaw7_LevelChain.j0 k l0 a1 t157 true)) = some r := H
  have A3 := Aside0.mk A30
  clear A30
  have HC4 := Aside0.mk H
  clear H
  go_enter Try.func6, Try.ntmps6
  go_upto_region 2 with (first | ((with_reducible refine gate_callee (f := 22) rfl ?_); refine goesL_ (some 17) rfl rfl Try.func22 (by kernel_rfl) rfl #[] rfl (by (try simp only [List.map_toArray, List.map_cons, List.map_nil]); first | done | rfl | (simp only [List.length_drop, List.length_take]; rfl)) ?_; (with_reducible refine (racewaylaw7_shown.calls k  t157 _ A3.out).mono ?_); rintro e w5 ⟨rfl, hb⟩; refine ⟨_, rfl, ?_⟩; have n0_ := Aside0.mk (below_step (by repeat (first | (with_reducible first | exact HB.out | apply below_alloc | apply pw_below_drewN | apply below_drew1) | exact HB.out)) hb); clear HB; have HB := n0_; clear n0_; (try clear hb); (try clear hb2); (try clear hk); (try clear hi)))
  (try simp only [Act.put, List.setIfInBounds_toArray, List.set_cons_zero, List.set_cons_succ])
  go_cut [29] (fun v29 wc => ∃ (kq : Nat) (x29_3 : Bool), v29 = .bool x29_3 ∧ Aside0 (racewaylaw7_LevelChain.j0 kq l0 a1 t157 x29_3 = some r) ∧ Aside0 (kq ≤ k) ∧ Aside0 (Below w.heap.size w wc))
  case first =>
    have H := HC4.out
    clear HC4
    by_cases c6 : t157 = true
    · subst c6
      have H1 : (if (l0.length : Int) = 0 then (racewaylaw7_LevelChain.j0 k l0 a1 true true) else (racewaylaw7_LevelChain.j0 k l0 a1 true (decide ((l0.length : Int) > 100)))) = some r := by rw [if_pos rfl] at H; exact H
      clear H
      have H := H1
      clear H1
      by_cases c7 : (l0.length : Int) = 0
      · rw [if_pos c7] at H
        have c7b0 : ((l0.length : Int) == 0) = true := beq_iff_eq.mpr c7
        have c7b1 : ((l0.length : Int) != 0) = false := bne_eq_false_iff_eq.mpr c7
        clear c7
        (first | rw [c7b0] | (simp only [i64_w, i32_w]; rw [c7b0]) | skip)
        have H' := Aside0.mk H
        clear H
        go_wp2
        go_meet
        case rel => exact ⟨_, (true), (by first | rfl | (simp; done) | (simp [*]; done)), H', ⟨by first | omega | exact Nat.le_refl _⟩, ⟨by repeat (first | (with_reducible first | exact HB.out | apply below_alloc | apply pw_below_drewN | apply below_drew1) | exact HB.out)⟩⟩
      · rw [if_neg c7] at H
        have c7b0 : ((l0.length : Int) == 0) = false := beq_eq_false_iff_ne.mpr c7
        have c7b1 : ((l0.length : Int) != 0) = true := bne_iff_ne.mpr c7
        have c7b2 : ¬ (l0 = []) := fun h_ => c7 (by rw [h_]; rfl)
        (first | rw [c7b0] | (simp only [i64_w, i32_w]; rw [c7b0]) | skip)
        have H' := Aside0.mk H
        clear H
        go_wp2
        go_meet
        case rel => exact ⟨_, (decide ((l0.length : Int) > 100)), (by first | rfl | (simp; done) | (simp [*]; done)), H', ⟨by first | omega | exact Nat.le_refl _⟩, ⟨by repeat (first | (with_reducible first | exact HB.out | apply below_alloc | apply pw_below_drewN | apply below_drew1) | exact HB.out)⟩⟩
    · replace c6 := Bool.eq_false_iff.mpr c6
      subst c6
      have H1 : (racewaylaw7_LevelChain.j0 k l0 a1 false true) = some r := by rw [if_neg (show ¬ (false = true) by decide)] at H; exact H
      clear H
      have H := H1
      clear H1
      have H' := Aside0.mk H
      clear H
      go_wp2
      go_meet
      case rel => exact ⟨_, (true), (by first | rfl | (simp; done) | (simp [*]; done)), H', ⟨by first | omega | exact Nat.le_refl _⟩, ⟨by repeat (first | (with_reducible first | exact HB.out | apply below_alloc | apply pw_below_drewN | apply below_drew1) | exact HB.out)⟩⟩
  case rest =>
    clear HC4
    try clear c2
    try clear p2
    try clear c6
    try clear c7
    try clear c7b0
    try clear c7b1
    try clear c7b2
    obtain ⟨kq, x29_3, rfl, HA, HJ3, HB⟩ := hcut
    cases kq with
    | zero => exact absurd HA.out (by simp [racewaylaw7_LevelChain.j0])
    | succ kj3 =>
      have H := HA.out
      clear HA
      simp only [racewaylaw7_LevelChain.j0] at H
      by_cases c8 : x29_3 = true
      · subst c8
        have H1 : (some t157) = some r := by rw [if_pos rfl] at H; exact H
        clear H
        have H := H1
        clear H1
        obtain rfl := Option.some.inj H
        go_wp2
        go_ret
        exact ⟨by first | rfl | (simp [errW_none, errW_some] <;> rfl) | (simp [*, errW_none, errW_some] <;> rfl), by repeat (first | (with_reducible first | exact HB.out | apply below_alloc | apply pw_below_drewN | apply below_drew1) | exact HB.out)⟩
      · replace c8 := Bool.eq_false_iff.mpr c8
        subst c8
        have H1 : ((racewaylaw7_pick.f a1 9).bind fun t159 => (racewaylaw7_LevelChain.l0 kj3 l0 (wrap64 (1 + t159)) (l0.length : Int) 0 (wrap64 ((l0.length : Int) + 1)) 1 (wrap64 ((l0.length : Int) + 1)) ([] : List (S49)))) = some r := by rw [if_neg (show ¬ (false = true) by decide)] at H; exact H
        clear H
        have H := H1
        clear H1
        replace H := Option.bind_eq_some_iff.mp H
        obtain ⟨t159, A90, H⟩ := H
        replace H : (racewaylaw7_LevelChain.l0 kj3 l0 (wrap64 (1 + t159)) (l0.length : Int) 0 (wrap64 ((l0.length : Int) + 1)) 1 (wrap64 ((l0.length : Int) + 1)) ([] : List (S49))) = some r := H
        have A9 := Aside0.mk A90
        clear A90
        have H' := Aside0.mk H
        clear H
        go_wp2_with (first | ((with_reducible refine gate_dst (N := 6) rfl ?_); (try (refine gate_guard (by rfl) ?_; dsimp only)); refine box_event ?hg (N := 6) ?hd (cs := #[.int .i64 0, .int .i64 0, .int .i64 0, .slice none 0 0]) (t := 27) ?hr ?_; (case hd => rfl); (case hg => rfl); (case hr => first | (go_simp; done) | (go_simp; rfl)); intro gb158 hg w10 hbox hb; have n0_ := Aside0.mk (below_step (by repeat (first | (with_reducible first | exact HB.out | apply below_alloc | apply pw_below_drewN | apply below_drew1) | exact HB.out)) hb); have n1_ := Aside0.mk (hbox); have n2_ := Aside0.mk ((by rw [hg]; exact (below_size (by repeat (first | (with_reducible first | exact HB.out | apply below_alloc | apply pw_below_drewN | apply below_drew1) | exact HB.out))) : w.heap.size ≤ gb158)); have n3_ := Aside0.mk ((by rw [hg]; exact (below_size (by repeat (first | (with_reducible first | exact HB.out | apply below_alloc | apply pw_below_drewN | apply below_drew1) | exact HB.out))) : w.heap.size ≤ gb158)); clear HB; have HB := n0_; have BK158 := n1_; have GW158 := n2_; have GE158 := n3_; clear n0_ n1_ n2_ n3_; clear hb hbox hg; have hcz11_0 : w10.cell? ⟨gb158, 0, none⟩ = some (.int .i64 0) := (blk_cell BK158.out 0).trans rfl; have hcz11_1 : w10.cell? ⟨gb158, 1, none⟩ = some (.int .i64 0) := (blk_cell BK158.out 1).trans rfl; have hcz11_2 : w10.cell? ⟨gb158, 2, none⟩ = some (.int .i64 0) := (blk_cell BK158.out 2).trans rfl; have hcz11_3 : w10.cell? ⟨gb158, 3, none⟩ = some (.slice none 0 0) := (blk_cell BK158.out 3).trans rfl; have hfz11_0 := blk_frozen BK158.out 0; have hfz11_1 := blk_frozen BK158.out 1; have hfz11_2 := blk_frozen BK158.out 2; have hfz11_3 := blk_frozen BK158.out 3) | ((with_reducible refine gate_callee (f := 25) rfl ?_); refine goesL_ (some 39) rfl rfl Try.func25 (by kernel_rfl) rfl #[.int .i64 a1, .int .i64 9] rfl (by (try simp only [List.map_toArray, List.map_cons, List.map_nil]); first | done | rfl | (simp only [List.length_drop, List.length_take]; rfl)) ?_; (with_reducible refine (racewaylaw7_pick.calls a1 9 t159 _ A9.out).mono ?_); rintro e w' ⟨rfl, ⟨nd, rfl⟩⟩; refine ⟨_, rfl, ?_⟩))
        go_loopg [8, 9] kj3 (fun kq v8 v9 w' => ∃ (x8_2 : Int) (x9_2 : Int) (x159003_2 : List (S49)) (u159003 : Value), v8 = .int .i64 x8_2 ∧ v9 = .int .i64 x9_2 ∧ Aside0 (racewaylaw7_LevelChain.l0 kq l0 (wrap64 (1 + t159)) x8_2 x9_2 (wrap64 ((l0.length : Int) + 1)) 1 (wrap64 ((l0.length : Int) + 1)) x159003_2 = some r) ∧ Aside0 (kq ≤ kj3) ∧ Aside0 (Kd.R k49 49 w' w.heap.size (fun _ => True) u159003 x159003_2) ∧ Aside0 (w'.heap[gb158]? = some (.cells #[.int .i64 (wrap64 ((l0.length : Int) + 1)), .int .i64 1, .int .i64 (wrap64 ((l0.length : Int) + 1)), u159003] 27 (0, 0))) ∧ Aside0 (Below w.heap.size w w'))
        case atStart => exact ⟨((l0.length : Int)), (0), (([] : List (S49))), (.slice none 0 0), (by first | rfl | (simp; done) | (simp [*]; done)), (by first | rfl | (simp; done) | (simp [*]; done)), H', ⟨Nat.le_refl _⟩, ⟨by first | exact Kd.R_nil _ _ _ _ _ | exact Kd.N_nil _ _ _ _ _ | exact Kd.V_nil _ _ _ _ _ | exact Kd.Q_nil _ _ _ _ _ | exact Kd.S_nil _ _ _ _ _⟩, ⟨by (with_reducible repeat (first | refine blk_drewN ?_ _ | refine blk_drew ?_ | refine blk_alloc ?_ _)); refine blk_put (cs := #[.int .i64 (wrap64 ((l0.length : Int) + 1)), .int .i64 1, .int .i64 (wrap64 ((l0.length : Int) + 1)), .slice none 0 0]) ?_ 3 _ rfl; (with_reducible repeat (first | refine blk_drewN ?_ _ | refine blk_drew ?_ | refine blk_alloc ?_ _)); refine blk_put (cs := #[.int .i64 (wrap64 ((l0.length : Int) + 1)), .int .i64 1, .int .i64 0, .slice none 0 0]) ?_ 2 _ rfl; (with_reducible repeat (first | refine blk_drewN ?_ _ | refine blk_drew ?_ | refine blk_alloc ?_ _)); refine blk_put (cs := #[.int .i64 (wrap64 ((l0.length : Int) + 1)), .int .i64 0, .int .i64 0, .slice none 0 0]) ?_ 1 _ rfl; (with_reducible repeat (first | refine blk_drewN ?_ _ | refine blk_drew ?_ | refine blk_alloc ?_ _)); refine blk_put (cs := #[.int .i64 0, .int .i64 0, .int .i64 0, .slice none 0 0]) ?_ 0 _ rfl; (with_reducible repeat (first | refine blk_drewN ?_ _ | refine blk_drew ?_ | refine blk_alloc ?_ _)); exact BK158.out⟩, ⟨by repeat (first | (with_reducible first | exact HB.out | apply below_alloc | apply pw_below_drewN | apply below_drew1 | refine below_set ?_ GE158.out) | exact HB.out)⟩⟩
        case round =>
          clear H'
          try clear c2
          try clear p2
          try clear c6
          try clear p6
          try clear c7
          try clear c7b0
          try clear c7b1
          try clear c7b2
          try clear c8
          try clear hcz11_0
          try clear hcz11_1
          try clear hcz11_2
          try clear hcz11_3
          try clear hfz11_0
          try clear hfz11_1
          try clear hfz11_2
          try clear hfz11_3
          try clear p2
          obtain ⟨x8_2, x9_2, x159003_2, u159003, rfl, rfl, HA, HK2, HO_159003, BK158, HB⟩ := hrel
          cases gk with
          | zero => exact absurd HA.out (by simp [racewaylaw7_LevelChain.l0])
          | succ k2 =>
            have H := HA.out
            clear HA
            simp only [racewaylaw7_LevelChain.l0] at H
            by_cases c12 : x9_2 < (l0.length : Int)
            · rw [if_pos c12] at H
              have c12b0 : decide (x9_2 < (l0.length : Int)) = true := decide_eq_true c12
              clear c12
              by_cases c13 : 0 ≤ x9_2
              · rw [if_pos c13] at H
                have c13b0 : decide (0 ≤ x9_2) = true := decide_eq_true c13
                clear c13
                replace H := Option.bind_eq_some_iff.mp H
                obtain ⟨t161, A140, H⟩ := H
                replace H : (if x159003_2.length < 5864062014805 then ((some (x159003_2 ++ [(⟨wrap64 (x9_2 + 1), wrap64 (x9_2 + 2), t161⟩ : S49)] : List (S49))).bind fun y162 => (if t161 < (wrap64 (1 + t159)) then (racewaylaw7_LevelChain.l0 k2 l0 (wrap64 (1 + t159)) (mn x8_2 x9_2) (wrap64 (x9_2 + 1)) (wrap64 ((l0.length : Int) + 1)) 1 (wrap64 ((l0.length : Int) + 1)) y162) else (racewaylaw7_LevelChain.l0 k2 l0 (wrap64 (1 + t159)) x8_2 (wrap64 (x9_2 + 1)) (wrap64 ((l0.length : Int) + 1)) 1 (wrap64 ((l0.length : Int) + 1)) y162))) else (none)) = some r := H
                have A14 := Aside0.mk A140
                clear A140
                by_cases c15 : x159003_2.length < 5864062014805
                · rw [if_pos c15] at H
                  have LMc15 := Aside0.mk c15
                  clear c15
                  obtain ⟨y162, hy162⟩ : ∃ y_ : List (S49), y_ = (x159003_2 ++ [(⟨wrap64 (x9_2 + 1), wrap64 (x9_2 + 2), t161⟩ : S49)]) := ⟨_, rfl⟩
                  replace H : (if t161 < (wrap64 (1 + t159)) then (racewaylaw7_LevelChain.l0 k2 l0 (wrap64 (1 + t159)) (mn x8_2 x9_2) (wrap64 (x9_2 + 1)) (wrap64 ((l0.length : Int) + 1)) 1 (wrap64 ((l0.length : Int) + 1)) y162) else (racewaylaw7_LevelChain.l0 k2 l0 (wrap64 (1 + t159)) x8_2 (wrap64 (x9_2 + 1)) (wrap64 ((l0.length : Int) + 1)) 1 (wrap64 ((l0.length : Int) + 1)) y162)) = some r := by first | (rw [hy162]; with_reducible exact H) | (have H2_ := (Option.bind_some _ _).symm.trans H; rw [hy162]; with_reducible exact H2_) | (have H2_ := (Option.bind_some _ _).symm.trans H; with_reducible exact H2_) | with_reducible exact H | (rw [hy162]; exact H) | exact H
                  have Ny162 := Aside0.mk hy162
                  clear hy162
                  by_cases c16 : t161 < (wrap64 (1 + t159))
                  · rw [if_pos c16] at H
                    have c16b0 : decide (t161 < (wrap64 (1 + t159))) = true := decide_eq_true c16
                    clear c16
                    obtain ⟨ji17, hji17⟩ : ∃ j_ : Int, (mn x8_2 x9_2) = j_ := ⟨_, rfl⟩
                    replace H : (racewaylaw7_LevelChain.l0 k2 l0 (wrap64 (1 + t159)) ji17 (wrap64 (x9_2 + 1)) (wrap64 ((l0.length : Int) + 1)) 1 (wrap64 ((l0.length : Int) + 1)) y162) = some r := by first | (rw [hji17] at H; exact H) | (simp only [hji17] at H ⊢; exact H)
                    (try rw [hji17] at A14)
                    have hji17_ : (if x9_2 < x8_2 then x9_2 else x8_2) = ji17 := hji17
                    have H' := Aside0.mk H
                    clear H
                    have p160 : 0 ≤ (x9_2 : Int) := of_decide_eq_true (by first | (with_reducible assumption) | assumption)
                    have q160 : x9_2 < (l0.length : Int) := of_decide_eq_true (by first | (with_reducible assumption) | assumption)
                    obtain ⟨ad160, e160, hx160_0⟩ := Kd.at_int HR0.out x9_2 p160 q160
                    cases e160
                    replace hx160_0 := (HB.out.cell (World.block_lt_of_cell? w _ hx160_0)).trans hx160_0
                    replace p160 := eq_true p160
                    replace q160 := eq_true q160
                    go_wp2_with (first | ((with_reducible refine gate_callee (f := 25) rfl ?_); refine goesL_ (some 53) rfl rfl Try.func25 (by kernel_rfl) rfl #[.int .i64 (rd l0 x9_2), .int .i64 20] rfl (by (try simp only [List.map_toArray, List.map_cons, List.map_nil]); first | done | rfl | (simp only [List.length_drop, List.length_take]; rfl)) ?_; (with_reducible refine (racewaylaw7_pick.calls (rd l0 x9_2) 20 t161 _ A14.out).mono ?_); rintro e w' ⟨rfl, ⟨nd, rfl⟩⟩; refine ⟨_, rfl, ?_⟩; (try (rw [drewN_self wr]; generalize hq_ : World.drewN wr _ = wr; have n0_ : Aside0 (Kd.R k49 49 wr w.heap.size (fun _ => True) u159003 x159003_2) := ⟨by rw [← hq_]; exact (by (with_reducible repeat (first | apply Kd.R_alloc | apply Kd.R_drewN | apply Kd.R_drew)); exact HO_159003.out)⟩; have n1_ : Aside0 (wr.heap[gb158]? = some (.cells #[.int .i64 (wrap64 ((l0.length : Int) + 1)), .int .i64 1, .int .i64 (wrap64 ((l0.length : Int) + 1)), u159003] 27 (0, 0))) := ⟨by rw [← hq_]; exact (by (with_reducible repeat (first | refine blk_drewN ?_ _ | refine blk_drew ?_ | refine blk_alloc ?_ _)); exact BK158.out)⟩; have n2_ : Aside0 (Below w.heap.size w wr) := ⟨by rw [← hq_]; exact (by repeat (first | (with_reducible first | exact HB.out | apply below_alloc | apply pw_below_drewN | apply below_drew1 | refine below_set ?_ GE158.out) | exact HB.out))⟩; clear HO_159003 BK158 HB hq_; have HO_159003 := n0_; have BK158 := n1_; have HB := n2_; clear n0_ n1_ n2_; have hcqBK158_0 : wr.cell? ⟨gb158, 0, none⟩ = some (.int .i64 (wrap64 ((l0.length : Int) + 1))) := (blk_cell BK158.out 0).trans rfl; have hfqBK158_0 := blk_frozen BK158.out 0; have hcqBK158_1 : wr.cell? ⟨gb158, 1, none⟩ = some (.int .i64 1) := (blk_cell BK158.out 1).trans rfl; have hfqBK158_1 := blk_frozen BK158.out 1; have hcqBK158_2 : wr.cell? ⟨gb158, 2, none⟩ = some (.int .i64 (wrap64 ((l0.length : Int) + 1))) := (blk_cell BK158.out 2).trans rfl; have hfqBK158_2 := blk_frozen BK158.out 2; have hcqBK158_3 : wr.cell? ⟨gb158, 3, none⟩ = some (u159003) := (blk_cell BK158.out 3).trans rfl; have hfqBK158_3 := blk_frozen BK158.out 3)); have hcz18_0 : wr.cell? ⟨gb158, 0, none⟩ = some (.int .i64 (wrap64 ((l0.length : Int) + 1))) := (blk_cell BK158.out 0).trans rfl; have hcz18_1 : wr.cell? ⟨gb158, 1, none⟩ = some (.int .i64 1) := (blk_cell BK158.out 1).trans rfl; have hcz18_2 : wr.cell? ⟨gb158, 2, none⟩ = some (.int .i64 (wrap64 ((l0.length : Int) + 1))) := (blk_cell BK158.out 2).trans rfl; have hcz18_3 : wr.cell? ⟨gb158, 3, none⟩ = some (u159003) := (blk_cell BK158.out 3).trans rfl; have hfz18_0 := blk_frozen BK158.out 0; have hfz18_1 := blk_frozen BK158.out 1; have hfz18_2 := blk_frozen BK158.out 2; have hfz18_3 := blk_frozen BK158.out 3) | ((with_reducible refine gate_builtin (b := .append) (xs := #[.tmp 55, .tmp 62]) rfl ?_); (try (refine gate_guard (by rfl) ?_; dsimp only)); at_builtin; refine Kd.R_append k49 (w0 := w) w.heap.size rfl (.tmp 55) (.tmp 62) 25 49 (.agg #[(.int .i64 0), (.int .i64 0), (.int .i64 0)]) 24 rfl Try.underlying25 info49 rfl (by decide) (by omega) u159003 x159003_2 (⟨wrap64 (x9_2 + 1), wrap64 (x9_2 + 2), t161⟩ : S49) [.int .i64 (wrap64 (x9_2 + 1)), .int .i64 (wrap64 (x9_2 + 2)), .int .i64 t161] (fun _ => True) (fun _ => False) rfl rfl ?aP (fun _ hk => hk.elim) ?aF ?aO ?aB ?aS ?aL ?_; (case aP => exact k49_mkM _ _ _ (⟨wrap64 (x9_2 + 1), wrap64 (x9_2 + 2), t161⟩ : S49)); (case aB => exact (by repeat (first | (with_reducible first | exact HB.out | apply below_alloc | apply pw_below_drewN | apply below_drew1 | refine below_set ?_ GE158.out) | exact HB.out))); (case aF => exact (fun _ _ => trivial)); (case aO => exact (by (with_reducible repeat (first | apply Kd.R_alloc | apply Kd.R_drewN | apply Kd.R_drew)); exact HO_159003.out)); (case aS => exact (below_size (by repeat (first | (with_reducible first | exact HB.out | apply below_alloc | apply pw_below_drewN | apply below_drew1 | refine below_set ?_ GE158.out) | exact HB.out)))); (case aL => have := LMc15.out; omega); intro v163 w19 ho hb hg hat; rw [← Ny162.out] at ho; have n0_ := Aside0.mk (blk_grown (g := gb158) (o := .cells #[.int .i64 (wrap64 ((l0.length : Int) + 1)), .int .i64 1, .int .i64 (wrap64 ((l0.length : Int) + 1)), u159003] 27 (0, 0)) (by (with_reducible repeat (first | refine blk_drewN ?_ _ | refine blk_drew ?_ | refine blk_alloc ?_ _)); exact BK158.out) hg (Kd.R_ne HO_159003.out BK158.out (by decide))); have n1_ := Aside0.mk (hb); have n2_ := Aside0.mk (ho); clear BK158; clear HB; clear HO_159003; have BK158 := n0_; have HB := n1_; have HO164 := n2_; clear n0_ n1_ n2_; clear ho hb hg hat; obtain ⟨Ao20, co20, eo20⟩ := Kd.R_slice HO164.out; subst eo20; have hcz21_0 : w19.cell? ⟨gb158, 0, none⟩ = some (.int .i64 (wrap64 ((l0.length : Int) + 1))) := (blk_cell BK158.out 0).trans rfl; have hcz21_1 : w19.cell? ⟨gb158, 1, none⟩ = some (.int .i64 1) := (blk_cell BK158.out 1).trans rfl; have hcz21_2 : w19.cell? ⟨gb158, 2, none⟩ = some (.int .i64 (wrap64 ((l0.length : Int) + 1))) := (blk_cell BK158.out 2).trans rfl; have hcz21_3 : w19.cell? ⟨gb158, 3, none⟩ = some (u159003) := (blk_cell BK158.out 3).trans rfl; have hfz21_0 := blk_frozen BK158.out 0; have hfz21_1 := blk_frozen BK158.out 1; have hfz21_2 := blk_frozen BK158.out 2; have hfz21_3 := blk_frozen BK158.out 3))
                    go_roundg k2
                    case measure => have := HJ3.out; have := HK2.out; omega
                    case rel => exact ⟨(ji17), (wrap64 (x9_2 + 1)), (y162), (.slice Ao20 y162.length co20), (by first | rfl | (simp; done) | (simp only [← hji17] <;> (first | rfl | simp)) | (simp [*]; done)), (by first | rfl | (simp; done) | (simp [*]; done)), H', ⟨by have := HJ3.out; have := HK2.out; omega⟩, ⟨by (with_reducible repeat (first | apply Kd.R_alloc | apply Kd.R_drewN | apply Kd.R_drew)); exact Kd.R_mono (Kd.R_far (p := ⟨gb158, 3, none⟩) (Kd.R_types HO164.out BK158.out (by decide)) (fun _ hk => hk.2) (.slice Ao20 y162.length co20)) (fun _ hk => trivial)⟩, ⟨by (with_reducible repeat (first | refine blk_drewN ?_ _ | refine blk_drew ?_ | refine blk_alloc ?_ _)); refine blk_put (cs := #[.int .i64 (wrap64 ((l0.length : Int) + 1)), .int .i64 1, .int .i64 (wrap64 ((l0.length : Int) + 1)), u159003]) ?_ 3 _ rfl; (with_reducible repeat (first | refine blk_drewN ?_ _ | refine blk_drew ?_ | refine blk_alloc ?_ _)); exact BK158.out⟩, ⟨by repeat (first | (with_reducible first | exact HB.out | apply below_alloc | apply pw_below_drewN | apply below_drew1 | refine below_set ?_ GE158.out) | exact HB.out)⟩⟩
                  · rw [if_neg c16] at H
                    have c16b0 : decide (t161 < (wrap64 (1 + t159))) = false := decide_eq_false c16
                    clear c16
                    have H' := Aside0.mk H
                    clear H
                    have p160 : 0 ≤ (x9_2 : Int) := of_decide_eq_true (by first | (with_reducible assumption) | assumption)
                    have q160 : x9_2 < (l0.length : Int) := of_decide_eq_true (by first | (with_reducible assumption) | assumption)
                    obtain ⟨ad160, e160, hx160_0⟩ := Kd.at_int HR0.out x9_2 p160 q160
                    cases e160
                    replace hx160_0 := (HB.out.cell (World.block_lt_of_cell? w _ hx160_0)).trans hx160_0
                    replace p160 := eq_true p160
                    replace q160 := eq_true q160
                    go_wp2_with (first | ((with_reducible refine gate_callee (f := 25) rfl ?_); refine goesL_ (some 53) rfl rfl Try.func25 (by kernel_rfl) rfl #[.int .i64 (rd l0 x9_2), .int .i64 20] rfl (by (try simp only [List.map_toArray, List.map_cons, List.map_nil]); first | done | rfl | (simp only [List.length_drop, List.length_take]; rfl)) ?_; (with_reducible refine (racewaylaw7_pick.calls (rd l0 x9_2) 20 t161 _ A14.out).mono ?_); rintro e w' ⟨rfl, ⟨nd, rfl⟩⟩; refine ⟨_, rfl, ?_⟩; (try (rw [drewN_self wr]; generalize hq_ : World.drewN wr _ = wr; have n0_ : Aside0 (Kd.R k49 49 wr w.heap.size (fun _ => True) u159003 x159003_2) := ⟨by rw [← hq_]; exact (by (with_reducible repeat (first | apply Kd.R_alloc | apply Kd.R_drewN | apply Kd.R_drew)); exact HO_159003.out)⟩; have n1_ : Aside0 (wr.heap[gb158]? = some (.cells #[.int .i64 (wrap64 ((l0.length : Int) + 1)), .int .i64 1, .int .i64 (wrap64 ((l0.length : Int) + 1)), u159003] 27 (0, 0))) := ⟨by rw [← hq_]; exact (by (with_reducible repeat (first | refine blk_drewN ?_ _ | refine blk_drew ?_ | refine blk_alloc ?_ _)); exact BK158.out)⟩; have n2_ : Aside0 (Below w.heap.size w wr) := ⟨by rw [← hq_]; exact (by repeat (first | (with_reducible first | exact HB.out | apply below_alloc | apply pw_below_drewN | apply below_drew1 | refine below_set ?_ GE158.out) | exact HB.out))⟩; clear HO_159003 BK158 HB hq_; have HO_159003 := n0_; have BK158 := n1_; have HB := n2_; clear n0_ n1_ n2_; have hcqBK158_0 : wr.cell? ⟨gb158, 0, none⟩ = some (.int .i64 (wrap64 ((l0.length : Int) + 1))) := (blk_cell BK158.out 0).trans rfl; have hfqBK158_0 := blk_frozen BK158.out 0; have hcqBK158_1 : wr.cell? ⟨gb158, 1, none⟩ = some (.int .i64 1) := (blk_cell BK158.out 1).trans rfl; have hfqBK158_1 := blk_frozen BK158.out 1; have hcqBK158_2 : wr.cell? ⟨gb158, 2, none⟩ = some (.int .i64 (wrap64 ((l0.length : Int) + 1))) := (blk_cell BK158.out 2).trans rfl; have hfqBK158_2 := blk_frozen BK158.out 2; have hcqBK158_3 : wr.cell? ⟨gb158, 3, none⟩ = some (u159003) := (blk_cell BK158.out 3).trans rfl; have hfqBK158_3 := blk_frozen BK158.out 3)); have hcz22_0 : wr.cell? ⟨gb158, 0, none⟩ = some (.int .i64 (wrap64 ((l0.length : Int) + 1))) := (blk_cell BK158.out 0).trans rfl; have hcz22_1 : wr.cell? ⟨gb158, 1, none⟩ = some (.int .i64 1) := (blk_cell BK158.out 1).trans rfl; have hcz22_2 : wr.cell? ⟨gb158, 2, none⟩ = some (.int .i64 (wrap64 ((l0.length : Int) + 1))) := (blk_cell BK158.out 2).trans rfl; have hcz22_3 : wr.cell? ⟨gb158, 3, none⟩ = some (u159003) := (blk_cell BK158.out 3).trans rfl; have hfz22_0 := blk_frozen BK158.out 0; have hfz22_1 := blk_frozen BK158.out 1; have hfz22_2 := blk_frozen BK158.out 2; have hfz22_3 := blk_frozen BK158.out 3) | ((with_reducible refine gate_builtin (b := .append) (xs := #[.tmp 55, .tmp 62]) rfl ?_); (try (refine gate_guard (by rfl) ?_; dsimp only)); at_builtin; refine Kd.R_append k49 (w0 := w) w.heap.size rfl (.tmp 55) (.tmp 62) 25 49 (.agg #[(.int .i64 0), (.int .i64 0), (.int .i64 0)]) 24 rfl Try.underlying25 info49 rfl (by decide) (by omega) u159003 x159003_2 (⟨wrap64 (x9_2 + 1), wrap64 (x9_2 + 2), t161⟩ : S49) [.int .i64 (wrap64 (x9_2 + 1)), .int .i64 (wrap64 (x9_2 + 2)), .int .i64 t161] (fun _ => True) (fun _ => False) rfl rfl ?aP (fun _ hk => hk.elim) ?aF ?aO ?aB ?aS ?aL ?_; (case aP => exact k49_mkM _ _ _ (⟨wrap64 (x9_2 + 1), wrap64 (x9_2 + 2), t161⟩ : S49)); (case aB => exact (by repeat (first | (with_reducible first | exact HB.out | apply below_alloc | apply pw_below_drewN | apply below_drew1 | refine below_set ?_ GE158.out) | exact HB.out))); (case aF => exact (fun _ _ => trivial)); (case aO => exact (by (with_reducible repeat (first | apply Kd.R_alloc | apply Kd.R_drewN | apply Kd.R_drew)); exact HO_159003.out)); (case aS => exact (below_size (by repeat (first | (with_reducible first | exact HB.out | apply below_alloc | apply pw_below_drewN | apply below_drew1 | refine below_set ?_ GE158.out) | exact HB.out)))); (case aL => have := LMc15.out; omega); intro v163 w23 ho hb hg hat; rw [← Ny162.out] at ho; have n0_ := Aside0.mk (blk_grown (g := gb158) (o := .cells #[.int .i64 (wrap64 ((l0.length : Int) + 1)), .int .i64 1, .int .i64 (wrap64 ((l0.length : Int) + 1)), u159003] 27 (0, 0)) (by (with_reducible repeat (first | refine blk_drewN ?_ _ | refine blk_drew ?_ | refine blk_alloc ?_ _)); exact BK158.out) hg (Kd.R_ne HO_159003.out BK158.out (by decide))); have n1_ := Aside0.mk (hb); have n2_ := Aside0.mk (ho); clear BK158; clear HB; clear HO_159003; have BK158 := n0_; have HB := n1_; have HO164 := n2_; clear n0_ n1_ n2_; clear ho hb hg hat; obtain ⟨Ao24, co24, eo24⟩ := Kd.R_slice HO164.out; subst eo24; have hcz25_0 : w23.cell? ⟨gb158, 0, none⟩ = some (.int .i64 (wrap64 ((l0.length : Int) + 1))) := (blk_cell BK158.out 0).trans rfl; have hcz25_1 : w23.cell? ⟨gb158, 1, none⟩ = some (.int .i64 1) := (blk_cell BK158.out 1).trans rfl; have hcz25_2 : w23.cell? ⟨gb158, 2, none⟩ = some (.int .i64 (wrap64 ((l0.length : Int) + 1))) := (blk_cell BK158.out 2).trans rfl; have hcz25_3 : w23.cell? ⟨gb158, 3, none⟩ = some (u159003) := (blk_cell BK158.out 3).trans rfl; have hfz25_0 := blk_frozen BK158.out 0; have hfz25_1 := blk_frozen BK158.out 1; have hfz25_2 := blk_frozen BK158.out 2; have hfz25_3 := blk_frozen BK158.out 3))
                    go_roundg k2
                    case measure => have := HJ3.out; have := HK2.out; omega
                    case rel => exact ⟨(x8_2), (wrap64 (x9_2 + 1)), (y162), (.slice Ao24 y162.length co24), (by first | rfl | (simp; done) | (simp [*]; done)), (by first | rfl | (simp; done) | (simp [*]; done)), H', ⟨by have := HJ3.out; have := HK2.out; omega⟩, ⟨by (with_reducible repeat (first | apply Kd.R_alloc | apply Kd.R_drewN | apply Kd.R_drew)); exact Kd.R_mono (Kd.R_far (p := ⟨gb158, 3, none⟩) (Kd.R_types HO164.out BK158.out (by decide)) (fun _ hk => hk.2) (.slice Ao24 y162.length co24)) (fun _ hk => trivial)⟩, ⟨by (with_reducible repeat (first | refine blk_drewN ?_ _ | refine blk_drew ?_ | refine blk_alloc ?_ _)); refine blk_put (cs := #[.int .i64 (wrap64 ((l0.length : Int) + 1)), .int .i64 1, .int .i64 (wrap64 ((l0.length : Int) + 1)), u159003]) ?_ 3 _ rfl; (with_reducible repeat (first | refine blk_drewN ?_ _ | refine blk_drew ?_ | refine blk_alloc ?_ _)); exact BK158.out⟩, ⟨by repeat (first | (with_reducible first | exact HB.out | apply below_alloc | apply pw_below_drewN | apply below_drew1 | refine below_set ?_ GE158.out) | exact HB.out)⟩⟩
                · rw [if_neg c15] at H
                  exact absurd H (by simp)
              · rw [if_neg c13] at H
                exact absurd H (by simp)
            · rw [if_neg c12] at H
              have c12b0 : decide (x9_2 < (l0.length : Int)) = false := decide_eq_false c12
              clear c12
              by_cases c26 : 0 ≤ (l0.length : Int)
              · rw [if_pos c26] at H
                have c26b0 := eq_true c26
                have c26b1 : decide (0 ≤ (l0.length : Int)) = true := decide_eq_true c26
                clear c26
                by_cases c27 : ((l0.length : Int) : Int).toNat ≤ 35184372088832
                · rw [if_pos c27] at H
                  have c27b0 := eq_true c27
                  have c27b1 : decide (((l0.length : Int) : Int).toNat ≤ 35184372088832) = true := decide_eq_true c27
                  clear c27
                  obtain ⟨y165, hy165⟩ : ∃ y_ : List Int, y_ = (List.replicate ((l0.length : Int) : Int).toNat 0) := ⟨_, rfl⟩
                  replace H : ((level_Levels.f k2 (wrap64 ((l0.length : Int) + 1)) 1 (wrap64 ((l0.length : Int) + 1)) x159003_2 y165 (wrap64 (1 + t159))).bind fun bt168 => ((level_Leads.f k2 (wrap64 ((l0.length : Int) + 1)) 1 (wrap64 ((l0.length : Int) + 1)) x159003_2 (List.replicate ((l0.length : Int) : Int).toNat 0) (wrap64 (1 + t159))).bind fun bt175 => (if bt168.2 = 0 then (if bt175.2 = 0 then (racewaylaw7_LevelChain.j2 k2 x8_2 bt168.1 ((bt175.1.length : Int) != x8_2) (wrap64 ((l0.length : Int) + 1)) 1 (wrap64 ((l0.length : Int) + 1)) x159003_2) else (racewaylaw7_LevelChain.j2 k2 x8_2 bt168.1 true (wrap64 ((l0.length : Int) + 1)) 1 (wrap64 ((l0.length : Int) + 1)) x159003_2)) else (racewaylaw7_LevelChain.j2 k2 x8_2 bt168.1 true (wrap64 ((l0.length : Int) + 1)) 1 (wrap64 ((l0.length : Int) + 1)) x159003_2)))) = some r := by first | (rw [hy165]; with_reducible exact H) | (have H2_ := (Option.bind_some _ _).symm.trans H; rw [hy165]; with_reducible exact H2_) | (have H2_ := (Option.bind_some _ _).symm.trans H; with_reducible exact H2_) | with_reducible exact H | (rw [hy165]; exact H) | exact H
                  have Ny165 := Aside0.mk hy165
                  clear hy165
                  replace H := Option.bind_eq_some_iff.mp H
                  obtain ⟨⟨t168, t171⟩, A280, H⟩ := H
                  replace H : ((level_Leads.f k2 (wrap64 ((l0.length : Int) + 1)) 1 (wrap64 ((l0.length : Int) + 1)) x159003_2 (List.replicate ((l0.length : Int) : Int).toNat 0) (wrap64 (1 + t159))).bind fun bt175 => (if t171 = 0 then (if bt175.2 = 0 then (racewaylaw7_LevelChain.j2 k2 x8_2 t168 ((bt175.1.length : Int) != x8_2) (wrap64 ((l0.length : Int) + 1)) 1 (wrap64 ((l0.length : Int) + 1)) x159003_2) else (racewaylaw7_LevelChain.j2 k2 x8_2 t168 true (wrap64 ((l0.length : Int) + 1)) 1 (wrap64 ((l0.length : Int) + 1)) x159003_2)) else (racewaylaw7_LevelChain.j2 k2 x8_2 t168 true (wrap64 ((l0.length : Int) + 1)) 1 (wrap64 ((l0.length : Int) + 1)) x159003_2))) = some r := H
                  have A28 := Aside0.mk A280
                  clear A280
                  obtain ⟨y172, hy172⟩ : ∃ y_ : List Int, y_ = (List.replicate ((l0.length : Int) : Int).toNat 0) := ⟨_, rfl⟩
                  replace H : ((level_Leads.f k2 (wrap64 ((l0.length : Int) + 1)) 1 (wrap64 ((l0.length : Int) + 1)) x159003_2 y172 (wrap64 (1 + t159))).bind fun bt175 => (if t171 = 0 then (if bt175.2 = 0 then (racewaylaw7_LevelChain.j2 k2 x8_2 t168 ((bt175.1.length : Int) != x8_2) (wrap64 ((l0.length : Int) + 1)) 1 (wrap64 ((l0.length : Int) + 1)) x159003_2) else (racewaylaw7_LevelChain.j2 k2 x8_2 t168 true (wrap64 ((l0.length : Int) + 1)) 1 (wrap64 ((l0.length : Int) + 1)) x159003_2)) else (racewaylaw7_LevelChain.j2 k2 x8_2 t168 true (wrap64 ((l0.length : Int) + 1)) 1 (wrap64 ((l0.length : Int) + 1)) x159003_2))) = some r := by first | (rw [hy172]; with_reducible exact H) | (have H2_ := (Option.bind_some _ _).symm.trans H; rw [hy172]; with_reducible exact H2_) | (have H2_ := (Option.bind_some _ _).symm.trans H; with_reducible exact H2_) | with_reducible exact H | (rw [hy172]; exact H) | exact H
                  have Ny172 := Aside0.mk hy172
                  clear hy172
                  replace H := Option.bind_eq_some_iff.mp H
                  obtain ⟨⟨t175, t178⟩, A290, H⟩ := H
                  replace H : (if t171 = 0 then (if t178 = 0 then (racewaylaw7_LevelChain.j2 k2 x8_2 t168 ((t175.length : Int) != x8_2) (wrap64 ((l0.length : Int) + 1)) 1 (wrap64 ((l0.length : Int) + 1)) x159003_2) else (racewaylaw7_LevelChain.j2 k2 x8_2 t168 true (wrap64 ((l0.length : Int) + 1)) 1 (wrap64 ((l0.length : Int) + 1)) x159003_2)) else (racewaylaw7_LevelChain.j2 k2 x8_2 t168 true (wrap64 ((l0.length : Int) + 1)) 1 (wrap64 ((l0.length : Int) + 1)) x159003_2)) = some r := H
                  have A29 := Aside0.mk A290
                  clear A290
                  have HC30 := Aside0.mk H
                  clear H
                  try go_wp2
                  have n0_ := Aside0.mk (Kd.R_drew HO_159003.out)
                  have n1_ := Aside0.mk (blk_drew BK158.out)
                  have n2_ := Aside0.mk (below_drew1 HB.out)
                  clear HO_159003
                  clear BK158
                  clear HB
                  have HO_159003 := n0_
                  have BK158 := n1_
                  have HB := n2_
                  clear n0_ n1_ n2_
                  refine start_ (n := 11) (S := fun w' => w'.cell? ⟨gb158, 0, none⟩ = some (.int .i64 (wrap64 ((l0.length : Int) + 1))) ∧ w'.cell? ⟨gb158, 1, none⟩ = some (.int .i64 1) ∧ w'.cell? ⟨gb158, 2, none⟩ = some (.int .i64 (wrap64 ((l0.length : Int) + 1))) ∧ w'.cell? ⟨gb158, 3, none⟩ = some (u159003)) (ds := []) #[false, false, false, false, false, false, false, false, false, false, false] (by kernel_rfl) rfl rfl ⟨(blk_cell BK158.out 0).trans rfl, (blk_cell BK158.out 1).trans rfl, (blk_cell BK158.out 2).trans rfl, (blk_cell BK158.out 3).trans rfl⟩ (fun hHeld => ?_); refine with_tabW racewaylaw7_LevelChain.tab14 racewaylaw7_LevelChain.bits14 (fun HT_ HW_ => ?_)
                  generalize wr.drew = w31 at HO_159003 BK158 HB hHeld ⊢
                  refine pure_ (i := 1) (N := some 73) (v := ?_) (a' := ?_) #[false, true, false, false, false, false, false, false, false, false, false] rfl rfl (any_of HT_.out (by kernel_rfl)) (fun _ _ _ h => h) (Or.inl ⟨by rfl, ?_⟩) ?_ ?_
                  rotate_left
                  · intro w'
                    go_simp
                    with_reducible rfl
                  rotate_left
                  · simp only [Act.put, List.setIfInBounds_toArray, List.set_cons_zero, List.set_cons_succ, i64_w, i32_w]
                    rfl
                  refine pure_ (i := 2) (N := some 74) (v := ?_) (a' := ?_) #[false, true, true, false, false, false, false, false, false, false, false] rfl rfl (any_of HT_.out (by kernel_rfl)) (fun _ _ _ h => h) (Or.inl ⟨by rfl, ?_⟩) ?_ ?_
                  rotate_left
                  · intro w'
                    go_simp
                    with_reducible rfl
                  rotate_left
                  · simp only [Act.put, List.setIfInBounds_toArray, List.set_cons_zero, List.set_cons_succ, i64_w, i32_w]
                    rfl
                  refine pure_ (i := 4) (N := some 76) (v := ?_) (a' := ?_) #[false, true, true, false, true, false, false, false, false, false, false] rfl rfl (any_of HT_.out (by kernel_rfl)) (fun _ _ _ h => h) (Or.inl ⟨by rfl, ?_⟩) ?_ ?_
                  rotate_left
                  · intro w'
                    go_simp
                    with_reducible rfl
                  rotate_left
                  · simp only [Act.put, List.setIfInBounds_toArray, List.set_cons_zero, List.set_cons_succ, i64_w, i32_w]
                    rfl
                  refine take_ (i := 0) (N := some 72) (v := ?_) (a' := ?_) #[true, true, true, false, true, false, false, false, false, false, false] rfl rfl (take_ofW HT_.out HW_.out (by kernel_rfl)) (fun _ _ _ h => h) (Or.inl ⟨by rfl, ?_⟩) hHeld ?_ ?_
                  rotate_left
                  · rintro w' ⟨s0, s1, s2, s3⟩
                    go_simp
                    with_reducible rfl
                  rotate_left
                  · simp only [Act.put, List.setIfInBounds_toArray, List.set_cons_zero, List.set_cons_succ, i64_w, i32_w]
                    rfl
                  refine one_ (i := 3) (N := some 75) #[true, true, true, true, true, false, false, false, false, false, false] rfl rfl (one_of HT_.out (by kernel_rfl)) (by decide) (fun K hK => ?_)
                  refine Kd.R_make_step (Kd.int .i64) _ 2 (by rfl) (N := 75) rfl 29 _ _ rfl (l0.length : Int) rfl rfl Try.underlying29 (.int .i64 0) 8 info2 rfl (by decide) (by omega) 0 (ok := fun _ => True) (okp := fun _ => True) rfl (fun _ hk => hk) trivial (of_decide_eq_true (by first | (with_reducible assumption) | assumption)) (Nat.le_trans (Nat.mul_le_mul_right _ (of_decide_eq_true (by first | (with_reducible assumption) | assumption) : (l0.length : Int).toNat ≤ 35184372088832)) (by omega)) (Below.refl _ _) (Nat.le_refl _) ?_
                  intro v166 w32 ho33 hb hg_ hnew_
                  clear hg_ hnew_
                  (first | rw [← Ny165.out] at ho33 | (simp only [Int.reduceToNat] at ho33; rw [← Ny165.out] at ho33))
                  have n0_ := Aside0.mk (Kd.R_below (by (with_reducible repeat (first | apply Kd.R_alloc | apply Kd.R_drewN | apply Kd.R_drew)); exact HO_159003.out) hb)
                  have n1_ := Aside0.mk (Kd.R_lower ho33 (below_size (by repeat (first | (with_reducible first | exact HB.out | apply below_alloc | apply pw_below_drewN | apply below_drew1 | refine below_set ?_ GE158.out) | exact HB.out))))
                  have n2_ := Aside0.mk (blk_below (g := gb158) (o := .cells #[.int .i64 (wrap64 ((l0.length : Int) + 1)), .int .i64 1, .int .i64 (wrap64 ((l0.length : Int) + 1)), u159003] 27 (0, 0)) (by (with_reducible repeat (first | refine blk_drewN ?_ _ | refine blk_drew ?_ | refine blk_alloc ?_ _)); exact BK158.out) hb)
                  have n3_ := Aside0.mk (below_step (by repeat (first | (with_reducible first | exact HB.out | apply below_alloc | apply pw_below_drewN | apply below_drew1 | refine below_set ?_ GE158.out) | exact HB.out)) hb)
                  clear HO_159003
                  clear BK158
                  clear HB
                  have HO_159003 := n0_
                  have HO167 := n1_
                  have BK158 := n2_
                  have HB := n3_
                  clear n0_ n1_ n2_ n3_
                  clear hb ho33
                  obtain ⟨Ao34, co34, eo34⟩ := Kd.R_slice HO_159003.out
                  (first | subst eo34 | (injection eo34 with f1_ f2_ f3_; have f4_ := f1_.symm; have f5_ := f3_.symm; clear f1_ f2_ f3_; subst f4_; subst f5_))
                  obtain ⟨Ao35, co35, eo35⟩ := Kd.R_slice HO167.out
                  (first | subst eo35 | (injection eo35 with f1_ f2_ f3_; have f4_ := f1_.symm; have f5_ := f3_.symm; clear f1_ f2_ f3_; subst f4_; subst f5_))
                  refine hK.out _ _ ⟨(blk_cell BK158.out 0).trans rfl, (blk_cell BK158.out 1).trans rfl, (blk_cell BK158.out 2).trans rfl, (blk_cell BK158.out 3).trans rfl⟩ (fun hHeld => ?_)
                  clear hK K
                  refine norm_ (a' := ?_) ?_ ?_
                  rotate_left
                  · show Act.put _ (some 75) _ = _
                    simp only [Act.put, List.setIfInBounds_toArray, List.set_cons_zero, List.set_cons_succ, i64_w, i32_w]
                    rfl
                  refine one_ (i := 5) (N := some 77) #[true, true, true, true, true, true, false, false, false, false, false] rfl rfl (one_of HT_.out (by kernel_rfl)) (by decide) (fun K hK => ?_)
                  refine goes_ Try.func26 (by kernel_rfl) rfl #[.agg #[.int .i64 (wrap64 ((l0.length : Int) + 1)), .int .i64 1, .int .i64 (wrap64 ((l0.length : Int) + 1)), .slice Ao34 x159003_2.length co34], .slice Ao35 y165.length co35, .int .i64 (wrap64 (1 + t159))] (by rfl) rfl rfl (by (try simp only [List.map_toArray, List.map_cons, List.map_nil]); first | done | rfl | (simp only [List.length_drop, List.length_take]; rfl)) ?_
                  with_reducible refine (level_Levels.calls k2 (wrap64 ((l0.length : Int) + 1)) 1 (wrap64 ((l0.length : Int) + 1)) _ _ x159003_2 _ _ y165 (wrap64 (1 + t159)) t168 t171 _ ?side1 ?side2 ?side3 ?side4 A28.out).mono ?_
                  (case side1 => repeat (first | exact (Kd.R_reads' HO_159003.out).2.2 | (with_reducible refine Kd.C_alloc ?_ _) | (with_reducible refine Kd.C_drewN ?_ _) | (with_reducible refine Kd.C_drew ?_)))
                  (case side2 => exact (Kd.R_reads' HO_159003.out).2.1)
                  (case side3 => repeat (first | exact (Kd.R_reads' HO167.out).2.2 | (with_reducible refine Kd.C_alloc ?_ _) | (with_reducible refine Kd.C_drewN ?_ _) | (with_reducible refine Kd.C_drew ?_)))
                  (case side4 => exact (Kd.R_reads' HO167.out).2.1)
                  rintro e w36 ⟨v169, rfl, ho0, hb⟩
                  refine ⟨_, rfl, ?_⟩
                  have n0_ := Aside0.mk (Kd.R_below (by (with_reducible repeat (first | apply Kd.R_alloc | apply Kd.R_drewN | apply Kd.R_drew)); exact HO_159003.out) hb)
                  have n1_ := Aside0.mk (Kd.R_below (by (with_reducible repeat (first | apply Kd.R_alloc | apply Kd.R_drewN | apply Kd.R_drew)); exact HO167.out) hb)
                  have n2_ := Aside0.mk (Kd.R_lower ho0 (below_size (by repeat (first | (with_reducible first | exact HB.out | apply below_alloc | apply pw_below_drewN | apply below_drew1 | refine below_set ?_ GE158.out) | exact HB.out))))
                  have n3_ := Aside0.mk (blk_below (g := gb158) (o := .cells #[.int .i64 (wrap64 ((l0.length : Int) + 1)), .int .i64 1, .int .i64 (wrap64 ((l0.length : Int) + 1)), .slice Ao34 x159003_2.length co34] 27 (0, 0)) (by (with_reducible repeat (first | refine blk_drewN ?_ _ | refine blk_drew ?_ | refine blk_alloc ?_ _)); exact BK158.out) hb)
                  have n4_ := Aside0.mk (below_step (by repeat (first | (with_reducible first | exact HB.out | apply below_alloc | apply pw_below_drewN | apply below_drew1 | refine below_set ?_ GE158.out) | exact HB.out)) hb)
                  clear HO_159003
                  clear HO167
                  clear BK158
                  clear HB
                  have HO_159003 := n0_
                  have HO167 := n1_
                  have HO170 := n2_
                  have BK158 := n3_
                  have HB := n4_
                  clear n0_ n1_ n2_ n3_ n4_
                  (try clear hb)
                  (try clear hb2)
                  (try clear hk)
                  (try clear hi)
                  (try clear ho0)
                  refine hK.out _ _ ⟨(blk_cell BK158.out 0).trans rfl, (blk_cell BK158.out 1).trans rfl, (blk_cell BK158.out 2).trans rfl, (blk_cell BK158.out 3).trans rfl⟩ (fun hHeld => ?_)
                  clear hK K
                  refine norm_ (a' := ?_) ?_ ?_
                  rotate_left
                  · show Act.put _ (some 77) _ = _
                    simp only [Act.put, List.setIfInBounds_toArray, List.set_cons_zero, List.set_cons_succ, i64_w, i32_w]
                    rfl
                  refine pure_ (i := 6) (N := some 71) (v := ?_) (a' := ?_) #[true, true, true, true, true, true, true, false, false, false, false] rfl rfl (any_of HT_.out (by kernel_rfl)) (fun _ _ _ h => h) (Or.inl ⟨by rfl, ?_⟩) ?_ ?_
                  rotate_left
                  · intro w'
                    go_simp
                    with_reducible rfl
                  rotate_left
                  · simp only [Act.put, List.setIfInBounds_toArray, List.set_cons_zero, List.set_cons_succ, i64_w, i32_w]
                    rfl
                  refine pure_ (i := 7) (N := some 78) (v := ?_) (a' := ?_) #[true, true, true, true, true, true, true, true, false, false, false] rfl rfl (any_of HT_.out (by kernel_rfl)) (fun _ _ _ h => h) (Or.inl ⟨by rfl, ?_⟩) ?_ ?_
                  rotate_left
                  · intro w'
                    go_simp
                    with_reducible rfl
                  rotate_left
                  · simp only [Act.put, List.setIfInBounds_toArray, List.set_cons_zero, List.set_cons_succ, i64_w, i32_w]
                    rfl
                  refine pure_ (i := 8) (N := some 79) (v := ?_) (a' := ?_) #[true, true, true, true, true, true, true, true, true, false, false] rfl rfl (any_of HT_.out (by kernel_rfl)) (fun _ _ _ h => h) (Or.inl ⟨by rfl, ?_⟩) ?_ ?_
                  rotate_left
                  · intro w'
                    go_simp
                    with_reducible rfl
                  rotate_left
                  · simp only [Act.put, List.setIfInBounds_toArray, List.set_cons_zero, List.set_cons_succ, i64_w, i32_w]
                    rfl
                  refine pure_ (i := 9) (N := some 11) (v := ?_) (a' := ?_) #[true, true, true, true, true, true, true, true, true, true, false] rfl rfl (any_of HT_.out (by kernel_rfl)) (fun _ _ _ h => h) (Or.inl ⟨by rfl, ?_⟩) ?_ ?_
                  rotate_left
                  · intro w'
                    go_simp
                    with_reducible rfl
                  rotate_left
                  · simp only [Act.put, List.setIfInBounds_toArray, List.set_cons_zero, List.set_cons_succ, i64_w, i32_w]
                    rfl
                  refine pure_ (i := 10) (N := some 12) (v := ?_) (a' := ?_) #[true, true, true, true, true, true, true, true, true, true, true] rfl rfl (any_of HT_.out (by kernel_rfl)) (fun _ _ _ h => h) (Or.inl ⟨by rfl, ?_⟩) ?_ ?_
                  rotate_left
                  · intro w'
                    go_simp
                    with_reducible rfl
                  rotate_left
                  · simp only [Act.put, List.setIfInBounds_toArray, List.set_cons_zero, List.set_cons_succ, i64_w, i32_w]
                    rfl
                  refine done_ (done_of HT_.out (by kernel_rfl)) ?_
                  try go_wp2
                  have n0_ := Aside0.mk (Kd.R_drew HO_159003.out)
                  have n1_ := Aside0.mk (Kd.R_drew HO167.out)
                  have n2_ := Aside0.mk (Kd.R_drew HO170.out)
                  have n3_ := Aside0.mk (blk_drew BK158.out)
                  have n4_ := Aside0.mk (below_drew1 HB.out)
                  clear HO_159003
                  clear HO167
                  clear HO170
                  clear BK158
                  clear HB
                  have HO_159003 := n0_
                  have HO167 := n1_
                  have HO170 := n2_
                  have BK158 := n3_
                  have HB := n4_
                  clear n0_ n1_ n2_ n3_ n4_
                  refine start_ (n := 11) (S := fun w' => w'.cell? ⟨gb158, 0, none⟩ = some (.int .i64 (wrap64 ((l0.length : Int) + 1))) ∧ w'.cell? ⟨gb158, 1, none⟩ = some (.int .i64 1) ∧ w'.cell? ⟨gb158, 2, none⟩ = some (.int .i64 (wrap64 ((l0.length : Int) + 1))) ∧ w'.cell? ⟨gb158, 3, none⟩ = some (.slice Ao34 x159003_2.length co34)) (ds := []) #[false, false, false, false, false, false, false, false, false, false, false] (by kernel_rfl) rfl rfl ⟨(blk_cell BK158.out 0).trans rfl, (blk_cell BK158.out 1).trans rfl, (blk_cell BK158.out 2).trans rfl, (blk_cell BK158.out 3).trans rfl⟩ (fun hHeld => ?_); refine with_tabW racewaylaw7_LevelChain.tab15 racewaylaw7_LevelChain.bits15 (fun HT_ HW_ => ?_)
                  generalize w36.drew = w37 at HO_159003 HO167 HO170 BK158 HB hHeld ⊢
                  refine pure_ (i := 1) (N := some 82) (v := ?_) (a' := ?_) #[false, true, false, false, false, false, false, false, false, false, false] rfl rfl (any_of HT_.out (by kernel_rfl)) (fun _ _ _ h => h) (Or.inl ⟨by rfl, ?_⟩) ?_ ?_
                  rotate_left
                  · intro w'
                    go_simp
                    with_reducible rfl
                  rotate_left
                  · simp only [Act.put, List.setIfInBounds_toArray, List.set_cons_zero, List.set_cons_succ, i64_w, i32_w]
                    rfl
                  refine pure_ (i := 2) (N := some 83) (v := ?_) (a' := ?_) #[false, true, true, false, false, false, false, false, false, false, false] rfl rfl (any_of HT_.out (by kernel_rfl)) (fun _ _ _ h => h) (Or.inl ⟨by rfl, ?_⟩) ?_ ?_
                  rotate_left
                  · intro w'
                    go_simp
                    with_reducible rfl
                  rotate_left
                  · simp only [Act.put, List.setIfInBounds_toArray, List.set_cons_zero, List.set_cons_succ, i64_w, i32_w]
                    rfl
                  refine pure_ (i := 4) (N := some 85) (v := ?_) (a' := ?_) #[false, true, true, false, true, false, false, false, false, false, false] rfl rfl (any_of HT_.out (by kernel_rfl)) (fun _ _ _ h => h) (Or.inl ⟨by rfl, ?_⟩) ?_ ?_
                  rotate_left
                  · intro w'
                    go_simp
                    with_reducible rfl
                  rotate_left
                  · simp only [Act.put, List.setIfInBounds_toArray, List.set_cons_zero, List.set_cons_succ, i64_w, i32_w]
                    rfl
                  refine take_ (i := 0) (N := some 81) (v := ?_) (a' := ?_) #[true, true, true, false, true, false, false, false, false, false, false] rfl rfl (take_ofW HT_.out HW_.out (by kernel_rfl)) (fun _ _ _ h => h) (Or.inl ⟨by rfl, ?_⟩) hHeld ?_ ?_
                  rotate_left
                  · rintro w' ⟨s0, s1, s2, s3⟩
                    go_simp
                    with_reducible rfl
                  rotate_left
                  · simp only [Act.put, List.setIfInBounds_toArray, List.set_cons_zero, List.set_cons_succ, i64_w, i32_w]
                    rfl
                  refine one_ (i := 3) (N := some 84) #[true, true, true, true, true, false, false, false, false, false, false] rfl rfl (one_of HT_.out (by kernel_rfl)) (by decide) (fun K hK => ?_)
                  refine Kd.R_make_step (Kd.int .i64) _ 2 (by rfl) (N := 84) rfl 29 _ _ rfl (l0.length : Int) rfl rfl Try.underlying29 (.int .i64 0) 8 info2 rfl (by decide) (by omega) 0 (ok := fun _ => True) (okp := fun _ => True) rfl (fun _ hk => hk) trivial (of_decide_eq_true (by first | (with_reducible assumption) | assumption)) (Nat.le_trans (Nat.mul_le_mul_right _ (of_decide_eq_true (by first | (with_reducible assumption) | assumption) : (l0.length : Int).toNat ≤ 35184372088832)) (by omega)) (Below.refl _ _) (Nat.le_refl _) ?_
                  intro v173 w38 ho39 hb hg_ hnew_
                  clear hg_ hnew_
                  (first | rw [← Ny172.out] at ho39 | (simp only [Int.reduceToNat] at ho39; rw [← Ny172.out] at ho39))
                  have n0_ := Aside0.mk (Kd.R_below (by (with_reducible repeat (first | apply Kd.R_alloc | apply Kd.R_drewN | apply Kd.R_drew)); exact HO_159003.out) hb)
                  have n1_ := Aside0.mk (Kd.R_elder' (by (with_reducible repeat (first | apply Kd.R_alloc | apply Kd.R_drewN | apply Kd.R_drew)); exact HO167.out) (Kd.R_base ho39) hb)
                  have n2_ := Aside0.mk (Kd.R_below (by (with_reducible repeat (first | apply Kd.R_alloc | apply Kd.R_drewN | apply Kd.R_drew)); exact HO170.out) hb)
                  have n3_ := Aside0.mk (Kd.R_lower (Kd.R_new' ho39 (Kd.R_lt (by (with_reducible repeat (first | apply Kd.R_alloc | apply Kd.R_drewN | apply Kd.R_drew)); exact HO167.out))) (below_size (by repeat (first | (with_reducible first | exact HB.out | apply below_alloc | apply pw_below_drewN | apply below_drew1 | refine below_set ?_ GE158.out) | exact HB.out))))
                  have n4_ := Aside0.mk (blk_below (g := gb158) (o := .cells #[.int .i64 (wrap64 ((l0.length : Int) + 1)), .int .i64 1, .int .i64 (wrap64 ((l0.length : Int) + 1)), .slice Ao34 x159003_2.length co34] 27 (0, 0)) (by (with_reducible repeat (first | refine blk_drewN ?_ _ | refine blk_drew ?_ | refine blk_alloc ?_ _)); exact BK158.out) hb)
                  have n5_ := Aside0.mk (below_step (by repeat (first | (with_reducible first | exact HB.out | apply below_alloc | apply pw_below_drewN | apply below_drew1 | refine below_set ?_ GE158.out) | exact HB.out)) hb)
                  clear HO_159003
                  clear HO167
                  clear HO170
                  clear BK158
                  clear HB
                  have HO_159003 := n0_
                  have HO167 := n1_
                  have HO170 := n2_
                  have HO174 := n3_
                  have BK158 := n4_
                  have HB := n5_
                  clear n0_ n1_ n2_ n3_ n4_ n5_
                  clear hb ho39
                  obtain ⟨Ao40, co40, eo40⟩ := Kd.R_slice HO174.out
                  (first | subst eo40 | (injection eo40 with f1_ f2_ f3_; have f4_ := f1_.symm; have f5_ := f3_.symm; clear f1_ f2_ f3_; subst f4_; subst f5_))
                  refine hK.out _ _ ⟨(blk_cell BK158.out 0).trans rfl, (blk_cell BK158.out 1).trans rfl, (blk_cell BK158.out 2).trans rfl, (blk_cell BK158.out 3).trans rfl⟩ (fun hHeld => ?_)
                  clear hK K
                  refine norm_ (a' := ?_) ?_ ?_
                  rotate_left
                  · show Act.put _ (some 84) _ = _
                    simp only [Act.put, List.setIfInBounds_toArray, List.set_cons_zero, List.set_cons_succ, i64_w, i32_w]
                    rfl
                  refine one_ (i := 5) (N := some 86) #[true, true, true, true, true, true, false, false, false, false, false] rfl rfl (one_of HT_.out (by kernel_rfl)) (by decide) (fun K hK => ?_)
                  refine goes_ Try.func27 (by kernel_rfl) rfl #[.agg #[.int .i64 (wrap64 ((l0.length : Int) + 1)), .int .i64 1, .int .i64 (wrap64 ((l0.length : Int) + 1)), .slice Ao34 x159003_2.length co34], .slice Ao40 y172.length co40, .int .i64 (wrap64 (1 + t159))] (by rfl) rfl rfl (by (try simp only [List.map_toArray, List.map_cons, List.map_nil]); first | done | rfl | (simp only [List.length_drop, List.length_take]; rfl)) ?_
                  with_reducible refine (level_Leads.calls k2 (wrap64 ((l0.length : Int) + 1)) 1 (wrap64 ((l0.length : Int) + 1)) _ _ x159003_2 _ _ y172 (wrap64 (1 + t159)) t175 t178 _ ?side1 ?side2 ?side3 ?side4 A29.out).mono ?_
                  (case side1 => repeat (first | exact (Kd.R_reads' HO_159003.out).2.2 | (with_reducible refine Kd.C_alloc ?_ _) | (with_reducible refine Kd.C_drewN ?_ _) | (with_reducible refine Kd.C_drew ?_)))
                  (case side2 => exact (Kd.R_reads' HO_159003.out).2.1)
                  (case side3 => repeat (first | exact (Kd.R_reads' HO174.out).2.2 | (with_reducible refine Kd.C_alloc ?_ _) | (with_reducible refine Kd.C_drewN ?_ _) | (with_reducible refine Kd.C_drew ?_)))
                  (case side4 => exact (Kd.R_reads' HO174.out).2.1)
                  rintro e w41 ⟨v176, rfl, ho0, hb⟩
                  refine ⟨_, rfl, ?_⟩
                  have n0_ := Aside0.mk (Kd.R_below (by (with_reducible repeat (first | apply Kd.R_alloc | apply Kd.R_drewN | apply Kd.R_drew)); exact HO_159003.out) hb)
                  have n1_ := Aside0.mk (Kd.R_below (by (with_reducible repeat (first | apply Kd.R_alloc | apply Kd.R_drewN | apply Kd.R_drew)); exact HO167.out) hb)
                  have n2_ := Aside0.mk (Kd.R_elder' (by (with_reducible repeat (first | apply Kd.R_alloc | apply Kd.R_drewN | apply Kd.R_drew)); exact HO170.out) (Kd.R_base ho0) hb)
                  have n3_ := Aside0.mk (Kd.R_below (by (with_reducible repeat (first | apply Kd.R_alloc | apply Kd.R_drewN | apply Kd.R_drew)); exact HO174.out) hb)
                  have n4_ := Aside0.mk (Kd.R_lower (Kd.R_new' ho0 (Kd.R_lt (by (with_reducible repeat (first | apply Kd.R_alloc | apply Kd.R_drewN | apply Kd.R_drew)); exact HO170.out))) (below_size (by repeat (first | (with_reducible first | exact HB.out | apply below_alloc | apply pw_below_drewN | apply below_drew1 | refine below_set ?_ GE158.out) | exact HB.out))))
                  have n5_ := Aside0.mk (blk_below (g := gb158) (o := .cells #[.int .i64 (wrap64 ((l0.length : Int) + 1)), .int .i64 1, .int .i64 (wrap64 ((l0.length : Int) + 1)), .slice Ao34 x159003_2.length co34] 27 (0, 0)) (by (with_reducible repeat (first | refine blk_drewN ?_ _ | refine blk_drew ?_ | refine blk_alloc ?_ _)); exact BK158.out) hb)
                  have n6_ := Aside0.mk (below_step (by repeat (first | (with_reducible first | exact HB.out | apply below_alloc | apply pw_below_drewN | apply below_drew1 | refine below_set ?_ GE158.out) | exact HB.out)) hb)
                  clear HO_159003
                  clear HO167
                  clear HO170
                  clear HO174
                  clear BK158
                  clear HB
                  have HO_159003 := n0_
                  have HO167 := n1_
                  have HO170 := n2_
                  have HO174 := n3_
                  have HO177 := n4_
                  have BK158 := n5_
                  have HB := n6_
                  clear n0_ n1_ n2_ n3_ n4_ n5_ n6_
                  (try clear hb)
                  (try clear hb2)
                  (try clear hk)
                  (try clear hi)
                  (try clear ho0)
                  refine hK.out _ _ ⟨(blk_cell BK158.out 0).trans rfl, (blk_cell BK158.out 1).trans rfl, (blk_cell BK158.out 2).trans rfl, (blk_cell BK158.out 3).trans rfl⟩ (fun hHeld => ?_)
                  clear hK K
                  refine norm_ (a' := ?_) ?_ ?_
                  rotate_left
                  · show Act.put _ (some 86) _ = _
                    simp only [Act.put, List.setIfInBounds_toArray, List.set_cons_zero, List.set_cons_succ, i64_w, i32_w]
                    rfl
                  refine pure_ (i := 6) (N := some 80) (v := ?_) (a' := ?_) #[true, true, true, true, true, true, true, false, false, false, false] rfl rfl (any_of HT_.out (by kernel_rfl)) (fun _ _ _ h => h) (Or.inl ⟨by rfl, ?_⟩) ?_ ?_
                  rotate_left
                  · intro w'
                    go_simp
                    with_reducible rfl
                  rotate_left
                  · simp only [Act.put, List.setIfInBounds_toArray, List.set_cons_zero, List.set_cons_succ, i64_w, i32_w]
                    rfl
                  refine pure_ (i := 7) (N := some 87) (v := ?_) (a' := ?_) #[true, true, true, true, true, true, true, true, false, false, false] rfl rfl (any_of HT_.out (by kernel_rfl)) (fun _ _ _ h => h) (Or.inl ⟨by rfl, ?_⟩) ?_ ?_
                  rotate_left
                  · intro w'
                    go_simp
                    with_reducible rfl
                  rotate_left
                  · simp only [Act.put, List.setIfInBounds_toArray, List.set_cons_zero, List.set_cons_succ, i64_w, i32_w]
                    rfl
                  refine pure_ (i := 8) (N := some 88) (v := ?_) (a' := ?_) #[true, true, true, true, true, true, true, true, true, false, false] rfl rfl (any_of HT_.out (by kernel_rfl)) (fun _ _ _ h => h) (Or.inl ⟨by rfl, ?_⟩) ?_ ?_
                  rotate_left
                  · intro w'
                    go_simp
                    with_reducible rfl
                  rotate_left
                  · simp only [Act.put, List.setIfInBounds_toArray, List.set_cons_zero, List.set_cons_succ, i64_w, i32_w]
                    rfl
                  refine pure_ (i := 9) (N := some 13) (v := ?_) (a' := ?_) #[true, true, true, true, true, true, true, true, true, true, false] rfl rfl (any_of HT_.out (by kernel_rfl)) (fun _ _ _ h => h) (Or.inl ⟨by rfl, ?_⟩) ?_ ?_
                  rotate_left
                  · intro w'
                    go_simp
                    with_reducible rfl
                  rotate_left
                  · simp only [Act.put, List.setIfInBounds_toArray, List.set_cons_zero, List.set_cons_succ, i64_w, i32_w]
                    rfl
                  refine pure_ (i := 10) (N := some 14) (v := ?_) (a' := ?_) #[true, true, true, true, true, true, true, true, true, true, true] rfl rfl (any_of HT_.out (by kernel_rfl)) (fun _ _ _ h => h) (Or.inl ⟨by rfl, ?_⟩) ?_ ?_
                  rotate_left
                  · intro w'
                    go_simp
                    with_reducible rfl
                  rotate_left
                  · simp only [Act.put, List.setIfInBounds_toArray, List.set_cons_zero, List.set_cons_succ, i64_w, i32_w]
                    rfl
                  refine done_ (done_of HT_.out (by kernel_rfl)) ?_
                  go_upto_region 16 with (fail)
                  go_cut [100] (fun v100 wc => ∃ (kq : Nat) (x100_29 : Bool), v100 = .bool x100_29 ∧ Aside0 (racewaylaw7_LevelChain.j2 kq x8_2 t168 x100_29 (wrap64 ((l0.length : Int) + 1)) 1 (wrap64 ((l0.length : Int) + 1)) x159003_2 = some r) ∧ Aside0 (kq ≤ k2) ∧ Aside0 (Kd.R (Kd.int .i64) 3 wc w.heap.size (fun _ => True) v169 t168) ∧ Aside0 (Kd.R k49 49 wc w.heap.size (fun _ => True) (.slice Ao34 x159003_2.length co34) x159003_2) ∧ Aside0 (wc.heap[gb158]? = some (.cells #[.int .i64 (wrap64 ((l0.length : Int) + 1)), .int .i64 1, .int .i64 (wrap64 ((l0.length : Int) + 1)), (.slice Ao34 x159003_2.length co34)] 27 (0, 0))) ∧ Aside0 (Below w.heap.size w wc))
                  case first =>
                    have H := HC30.out
                    clear HC30
                    by_cases c42 : t171 = 0
                    · rw [if_pos c42] at H
                      have c42b0 : (t171 == 0) = true := beq_iff_eq.mpr c42
                      have c42b1 : (t171 != 0) = false := bne_eq_false_iff_eq.mpr c42
                      clear c42
                      (first | rw [c42b0] | (simp only [i64_w, i32_w]; rw [c42b0]) | skip)
                      by_cases c43 : t178 = 0
                      · rw [if_pos c43] at H
                        have c43b0 : (t178 == 0) = true := beq_iff_eq.mpr c43
                        have c43b1 : (t178 != 0) = false := bne_eq_false_iff_eq.mpr c43
                        clear c43
                        have H' := Aside0.mk H
                        clear H
                        obtain ⟨Ao44, co44, eo44⟩ := Kd.R_slice HO177.out
                        subst eo44
                        go_wp2
                        go_meet
                        case rel => exact ⟨_, (((t175.length : Int) != x8_2)), (by first | rfl | (simp; done) | (simp [*]; done)), H', ⟨by have := HJ3.out; have := HK2.out; first | omega | exact Nat.le_refl _⟩, ⟨by (with_reducible repeat (first | apply Kd.R_alloc | apply Kd.R_drewN | apply Kd.R_drew)); exact Kd.R_mono HO170.out (fun _ hk => trivial)⟩, ⟨by (with_reducible repeat (first | apply Kd.R_alloc | apply Kd.R_drewN | apply Kd.R_drew)); exact HO_159003.out⟩, ⟨by (with_reducible repeat (first | refine blk_drewN ?_ _ | refine blk_drew ?_ | refine blk_alloc ?_ _)); exact BK158.out⟩, ⟨by repeat (first | (with_reducible first | exact HB.out | apply below_alloc | apply pw_below_drewN | apply below_drew1 | refine below_set ?_ GE158.out) | exact HB.out)⟩⟩
                      · rw [if_neg c43] at H
                        have c43b0 : (t178 == 0) = false := beq_eq_false_iff_ne.mpr c43
                        have c43b1 : (t178 != 0) = true := bne_iff_ne.mpr c43
                        have H' := Aside0.mk H
                        clear H
                        go_wp2
                        go_meet
                        case rel => exact ⟨_, (true), (by first | rfl | (simp; done) | (simp [*]; done)), H', ⟨by have := HJ3.out; have := HK2.out; first | omega | exact Nat.le_refl _⟩, ⟨by (with_reducible repeat (first | apply Kd.R_alloc | apply Kd.R_drewN | apply Kd.R_drew)); exact Kd.R_mono HO170.out (fun _ hk => trivial)⟩, ⟨by (with_reducible repeat (first | apply Kd.R_alloc | apply Kd.R_drewN | apply Kd.R_drew)); exact HO_159003.out⟩, ⟨by (with_reducible repeat (first | refine blk_drewN ?_ _ | refine blk_drew ?_ | refine blk_alloc ?_ _)); exact BK158.out⟩, ⟨by repeat (first | (with_reducible first | exact HB.out | apply below_alloc | apply pw_below_drewN | apply below_drew1 | refine below_set ?_ GE158.out) | exact HB.out)⟩⟩
                    · rw [if_neg c42] at H
                      have c42b0 : (t171 == 0) = false := beq_eq_false_iff_ne.mpr c42
                      have c42b1 : (t171 != 0) = true := bne_iff_ne.mpr c42
                      (first | rw [c42b0] | (simp only [i64_w, i32_w]; rw [c42b0]) | skip)
                      have H' := Aside0.mk H
                      clear H
                      go_wp2
                      go_meet
                      case rel => exact ⟨_, (true), (by first | rfl | (simp; done) | (simp [*]; done)), H', ⟨by have := HJ3.out; have := HK2.out; first | omega | exact Nat.le_refl _⟩, ⟨by (with_reducible repeat (first | apply Kd.R_alloc | apply Kd.R_drewN | apply Kd.R_drew)); exact Kd.R_mono HO170.out (fun _ hk => trivial)⟩, ⟨by (with_reducible repeat (first | apply Kd.R_alloc | apply Kd.R_drewN | apply Kd.R_drew)); exact HO_159003.out⟩, ⟨by (with_reducible repeat (first | refine blk_drewN ?_ _ | refine blk_drew ?_ | refine blk_alloc ?_ _)); exact BK158.out⟩, ⟨by repeat (first | (with_reducible first | exact HB.out | apply below_alloc | apply pw_below_drewN | apply below_drew1 | refine below_set ?_ GE158.out) | exact HB.out)⟩⟩
                  case rest =>
                    clear HC30
                    try clear c1
                    try clear p1
                    try clear q1
                    try clear hx1
                    try clear c2
                    try clear p2
                    try clear c4
                    try clear c6
                    try clear p6
                    try clear c7
                    try clear c7b0
                    try clear c7b1
                    try clear c7b2
                    try clear c8
                    try clear c12
                    try clear c12b0
                    try clear c13
                    try clear c13b0
                    try clear c15
                    try clear c16
                    try clear c16b0
                    try clear p16
                    try clear q16
                    try clear hx16
                    try clear c22
                    try clear c25
                    try clear c26
                    try clear c26b0
                    try clear c26b1
                    try clear c27
                    try clear c27b0
                    try clear c27b1
                    try clear c42
                    try clear c42b0
                    try clear c42b1
                    try clear c43
                    try clear c43b0
                    try clear c43b1
                    try clear hcz11_0
                    try clear hcz11_1
                    try clear hcz11_2
                    try clear hcz11_3
                    try clear hcz18_0
                    try clear hcz18_1
                    try clear hcz18_2
                    try clear hcz18_3
                    try clear hcz21_0
                    try clear hcz21_1
                    try clear hcz21_2
                    try clear hcz21_3
                    try clear hcz22_0
                    try clear hcz22_1
                    try clear hcz22_2
                    try clear hcz22_3
                    try clear hcz25_0
                    try clear hcz25_1
                    try clear hcz25_2
                    try clear hcz25_3
                    try clear hfz11_0
                    try clear hfz11_1
                    try clear hfz11_2
                    try clear hfz11_3
                    try clear hfz18_0
                    try clear hfz18_1
                    try clear hfz18_2
                    try clear hfz18_3
                    try clear hfz21_0
                    try clear hfz21_1
                    try clear hfz21_2
                    try clear hfz21_3
                    try clear hfz22_0
                    try clear hfz22_1
                    try clear hfz22_2
                    try clear hfz22_3
                    try clear hfz25_0
                    try clear hfz25_1
                    try clear hfz25_2
                    try clear hfz25_3
                    try clear hx160_0
                    try clear p160
                    try clear p2
                    try clear p6
                    try clear q160
                    obtain ⟨kq, x100_29, rfl, HA, HJ29, HO_11, HO_159003, BK158, HB⟩ := hcut
                    cases kq with
                    | zero => exact absurd HA.out (by simp [racewaylaw7_LevelChain.j2])
                    | succ kj29 =>
                      have H := HA.out
                      clear HA
                      simp only [racewaylaw7_LevelChain.j2] at H
                      by_cases c45 : x100_29 = true
                      · subst c45
                        have H1 : (some false) = some r := by rw [if_pos rfl] at H; exact H
                        clear H
                        have H := H1
                        clear H1
                        exact absurd ((Option.some.inj H).trans hrT_.out) (by simp)
                      · replace c45 := Bool.eq_false_iff.mpr c45
                        subst c45
                        have H1 : (racewaylaw7_LevelChain.l1 kj29 x8_2 t168 1 (wrap64 ((l0.length : Int) + 1)) 1 (wrap64 ((l0.length : Int) + 1)) x159003_2) = some r := by rw [if_neg (show ¬ (false = true) by decide)] at H; exact H
                        clear H
                        have H := H1
                        clear H1
                        have H' := Aside0.mk H
                        clear H
                        go_wp2
                        go_loopg [15] kj29 (fun kq v15 w' => ∃ (x15_4 : Int), v15 = .int .i64 x15_4 ∧ Aside0 (racewaylaw7_LevelChain.l1 kq x8_2 t168 x15_4 (wrap64 ((l0.length : Int) + 1)) 1 (wrap64 ((l0.length : Int) + 1)) x159003_2 = some r) ∧ Aside0 (kq ≤ kj29) ∧ Aside0 (Kd.R (Kd.int .i64) 3 w' w.heap.size (fun _ => True) v169 t168) ∧ Aside0 (Kd.R k49 49 w' w.heap.size (fun _ => True) (.slice Ao34 x159003_2.length co34) x159003_2) ∧ Aside0 (w'.heap[gb158]? = some (.cells #[.int .i64 (wrap64 ((l0.length : Int) + 1)), .int .i64 1, .int .i64 (wrap64 ((l0.length : Int) + 1)), (.slice Ao34 x159003_2.length co34)] 27 (0, 0))) ∧ Aside0 (Below w.heap.size w w'))
                        case atStart => exact ⟨(1), (by first | rfl | (simp; done) | (simp [*]; done)), H', ⟨Nat.le_refl _⟩, ⟨by (with_reducible repeat (first | apply Kd.R_alloc | apply Kd.R_drewN | apply Kd.R_drew)); exact HO_11.out⟩, ⟨by (with_reducible repeat (first | apply Kd.R_alloc | apply Kd.R_drewN | apply Kd.R_drew)); exact HO_159003.out⟩, ⟨by (with_reducible repeat (first | refine blk_drewN ?_ _ | refine blk_drew ?_ | refine blk_alloc ?_ _)); exact BK158.out⟩, ⟨by repeat (first | (with_reducible first | exact HB.out | apply below_alloc | apply pw_below_drewN | apply below_drew1 | refine below_set ?_ GE158.out) | exact HB.out)⟩⟩
                        case round =>
                          clear H'
                          try clear c1
                          try clear p1
                          try clear q1
                          try clear hx1
                          try clear c2
                          try clear p2
                          try clear c4
                          try clear c6
                          try clear p6
                          try clear c7
                          try clear c7b0
                          try clear c7b1
                          try clear c7b2
                          try clear c8
                          try clear c12
                          try clear c12b0
                          try clear c13
                          try clear c13b0
                          try clear c15
                          try clear c16
                          try clear c16b0
                          try clear p16
                          try clear q16
                          try clear hx16
                          try clear c22
                          try clear c25
                          try clear c26
                          try clear c26b0
                          try clear c26b1
                          try clear c27
                          try clear c27b0
                          try clear c27b1
                          try clear c42
                          try clear c42b0
                          try clear c42b1
                          try clear c43
                          try clear c43b0
                          try clear c43b1
                          try clear c45
                          try clear hcz11_0
                          try clear hcz11_1
                          try clear hcz11_2
                          try clear hcz11_3
                          try clear hcz18_0
                          try clear hcz18_1
                          try clear hcz18_2
                          try clear hcz18_3
                          try clear hcz21_0
                          try clear hcz21_1
                          try clear hcz21_2
                          try clear hcz21_3
                          try clear hcz22_0
                          try clear hcz22_1
                          try clear hcz22_2
                          try clear hcz22_3
                          try clear hcz25_0
                          try clear hcz25_1
                          try clear hcz25_2
                          try clear hcz25_3
                          try clear hfz11_0
                          try clear hfz11_1
                          try clear hfz11_2
                          try clear hfz11_3
                          try clear hfz18_0
                          try clear hfz18_1
                          try clear hfz18_2
                          try clear hfz18_3
                          try clear hfz21_0
                          try clear hfz21_1
                          try clear hfz21_2
                          try clear hfz21_3
                          try clear hfz22_0
                          try clear hfz22_1
                          try clear hfz22_2
                          try clear hfz22_3
                          try clear hfz25_0
                          try clear hfz25_1
                          try clear hfz25_2
                          try clear hfz25_3
                          try clear hx160_0
                          try clear p1
                          try clear p16
                          try clear p160
                          try clear p2
                          try clear p6
                          try clear q1
                          try clear q16
                          try clear q160
                          obtain ⟨x15_4, rfl, HA, HK4, HO_11, HO_159003, BK158, HB⟩ := hrel
                          cases gk with
                          | zero => exact absurd HA.out (by simp [racewaylaw7_LevelChain.l1])
                          | succ k4 =>
                            have H := HA.out
                            clear HA
                            simp only [racewaylaw7_LevelChain.l1] at H
                            by_cases c46 : x15_4 ≤ (wrap64 ((l0.length : Int) + 1))
                            · rw [if_pos c46] at H
                              have c46b0 : decide (x15_4 ≤ (wrap64 ((l0.length : Int) + 1))) = true := decide_eq_true c46
                              clear c46
                              by_cases c47 : (wrap64 (x15_4 - 1)) > x8_2
                              · rw [if_pos c47] at H
                                have c47b0 : decide (x8_2 < (wrap64 (x15_4 - 1))) = true := decide_eq_true c47
                                clear c47
                                by_cases c48 : 0 ≤ x15_4
                                · rw [if_pos c48] at H
                                  have c48b0 : decide (0 ≤ x15_4) = true := decide_eq_true c48
                                  clear c48
                                  by_cases c49 : x15_4 < (t168.length : Int)
                                  · rw [if_pos c49] at H
                                    have c49b0 : decide (x15_4 < (t168.length : Int)) = true := decide_eq_true c49
                                    clear c49
                                    by_cases c50 : (rd t168 x15_4) = (-1)
                                    · rw [if_pos c50] at H
                                      have c50b0 : ((rd t168 x15_4) == (-1)) = true := beq_iff_eq.mpr c50
                                      have c50b1 : ((rd t168 x15_4) != (-1)) = false := bne_eq_false_iff_eq.mpr c50
                                      clear c50
                                      have H' := Aside0.mk H
                                      clear H
                                      have hcz51_0 : wr.cell? ⟨gb158, 0, none⟩ = some (.int .i64 (wrap64 ((l0.length : Int) + 1))) := (blk_cell BK158.out 0).trans rfl
                                      have hcz51_1 : wr.cell? ⟨gb158, 1, none⟩ = some (.int .i64 1) := (blk_cell BK158.out 1).trans rfl
                                      have hcz51_2 : wr.cell? ⟨gb158, 2, none⟩ = some (.int .i64 (wrap64 ((l0.length : Int) + 1))) := (blk_cell BK158.out 2).trans rfl
                                      have hcz51_3 : wr.cell? ⟨gb158, 3, none⟩ = some (.slice Ao34 x159003_2.length co34) := (blk_cell BK158.out 3).trans rfl
                                      have hfz51_0 := blk_frozen BK158.out 0
                                      have hfz51_1 := blk_frozen BK158.out 1
                                      have hfz51_2 := blk_frozen BK158.out 2
                                      have hfz51_3 := blk_frozen BK158.out 3
                                      obtain ⟨Ao52, co52, eo52⟩ := Kd.R_slice HO_11.out
                                      subst eo52
                                      have p179 : 0 ≤ (x15_4 : Int) := of_decide_eq_true (by first | (with_reducible assumption) | assumption)
                                      have q179 : x15_4 < (t168.length : Int) := of_decide_eq_true (by first | (with_reducible assumption) | assumption)
                                      obtain ⟨ad179, e179, hx179_0⟩ := Kd.at_int (Kd.R_reads' HO_11.out).2.2 x15_4 p179 q179
                                      cases e179
                                      replace p179 := eq_true p179
                                      replace q179 := eq_true q179
                                      go_wp2
                                      go_roundg k4
                                      case measure => have := HJ3.out; have := HK2.out; have := HJ29.out; have := HK4.out; omega
                                      case rel => exact ⟨(wrap64 (x15_4 + 1)), (by first | rfl | (simp; done) | (simp [*]; done)), H', ⟨by have := HJ3.out; have := HK2.out; have := HJ29.out; have := HK4.out; omega⟩, ⟨by (with_reducible repeat (first | apply Kd.R_alloc | apply Kd.R_drewN | apply Kd.R_drew)); exact HO_11.out⟩, ⟨by (with_reducible repeat (first | apply Kd.R_alloc | apply Kd.R_drewN | apply Kd.R_drew)); exact HO_159003.out⟩, ⟨by (with_reducible repeat (first | refine blk_drewN ?_ _ | refine blk_drew ?_ | refine blk_alloc ?_ _)); exact BK158.out⟩, ⟨by repeat (first | (with_reducible first | exact HB.out | apply below_alloc | apply pw_below_drewN | apply below_drew1 | refine below_set ?_ GE158.out) | exact HB.out)⟩⟩
                                    · rw [if_neg c50] at H
                                      have c50b0 : ((rd t168 x15_4) == (-1)) = false := beq_eq_false_iff_ne.mpr c50
                                      have c50b1 : ((rd t168 x15_4) != (-1)) = true := bne_iff_ne.mpr c50
                                      exact absurd ((Option.some.inj H).trans hrT_.out) (by simp)
                                  · rw [if_neg c49] at H
                                    exact absurd H (by simp)
                                · rw [if_neg c48] at H
                                  exact absurd H (by simp)
                              · rw [if_neg c47] at H
                                have c47b0 : decide (x8_2 < (wrap64 (x15_4 - 1))) = false := decide_eq_false c47
                                clear c47
                                by_cases c53 : 0 ≤ x15_4
                                · rw [if_pos c53] at H
                                  have c53b0 : decide (0 ≤ x15_4) = true := decide_eq_true c53
                                  clear c53
                                  by_cases c54 : x15_4 < (t168.length : Int)
                                  · rw [if_pos c54] at H
                                    have c54b0 : decide (x15_4 < (t168.length : Int)) = true := decide_eq_true c54
                                    clear c54
                                    by_cases c55 : (rd t168 x15_4) = (wrap64 (x15_4 - 1))
                                    · rw [if_pos c55] at H
                                      have c55b0 : ((rd t168 x15_4) == (wrap64 (x15_4 - 1))) = true := beq_iff_eq.mpr c55
                                      have c55b1 : ((rd t168 x15_4) != (wrap64 (x15_4 - 1))) = false := bne_eq_false_iff_eq.mpr c55
                                      clear c55
                                      have H' := Aside0.mk H
                                      clear H
                                      have hcz56_0 : wr.cell? ⟨gb158, 0, none⟩ = some (.int .i64 (wrap64 ((l0.length : Int) + 1))) := (blk_cell BK158.out 0).trans rfl
                                      have hcz56_1 : wr.cell? ⟨gb158, 1, none⟩ = some (.int .i64 1) := (blk_cell BK158.out 1).trans rfl
                                      have hcz56_2 : wr.cell? ⟨gb158, 2, none⟩ = some (.int .i64 (wrap64 ((l0.length : Int) + 1))) := (blk_cell BK158.out 2).trans rfl
                                      have hcz56_3 : wr.cell? ⟨gb158, 3, none⟩ = some (.slice Ao34 x159003_2.length co34) := (blk_cell BK158.out 3).trans rfl
                                      have hfz56_0 := blk_frozen BK158.out 0
                                      have hfz56_1 := blk_frozen BK158.out 1
                                      have hfz56_2 := blk_frozen BK158.out 2
                                      have hfz56_3 := blk_frozen BK158.out 3
                                      obtain ⟨Ao57, co57, eo57⟩ := Kd.R_slice HO_11.out
                                      subst eo57
                                      have p180 : 0 ≤ (x15_4 : Int) := of_decide_eq_true (by first | (with_reducible assumption) | assumption)
                                      have q180 : x15_4 < (t168.length : Int) := of_decide_eq_true (by first | (with_reducible assumption) | assumption)
                                      obtain ⟨ad180, e180, hx180_0⟩ := Kd.at_int (Kd.R_reads' HO_11.out).2.2 x15_4 p180 q180
                                      cases e180
                                      replace p180 := eq_true p180
                                      replace q180 := eq_true q180
                                      go_wp2
                                      go_roundg k4
                                      case measure => have := HJ3.out; have := HK2.out; have := HJ29.out; have := HK4.out; omega
                                      case rel => exact ⟨(wrap64 (x15_4 + 1)), (by first | rfl | (simp; done) | (simp [*]; done)), H', ⟨by have := HJ3.out; have := HK2.out; have := HJ29.out; have := HK4.out; omega⟩, ⟨by (with_reducible repeat (first | apply Kd.R_alloc | apply Kd.R_drewN | apply Kd.R_drew)); exact HO_11.out⟩, ⟨by (with_reducible repeat (first | apply Kd.R_alloc | apply Kd.R_drewN | apply Kd.R_drew)); exact HO_159003.out⟩, ⟨by (with_reducible repeat (first | refine blk_drewN ?_ _ | refine blk_drew ?_ | refine blk_alloc ?_ _)); exact BK158.out⟩, ⟨by repeat (first | (with_reducible first | exact HB.out | apply below_alloc | apply pw_below_drewN | apply below_drew1 | refine below_set ?_ GE158.out) | exact HB.out)⟩⟩
                                    · rw [if_neg c55] at H
                                      have c55b0 : ((rd t168 x15_4) == (wrap64 (x15_4 - 1))) = false := beq_eq_false_iff_ne.mpr c55
                                      have c55b1 : ((rd t168 x15_4) != (wrap64 (x15_4 - 1))) = true := bne_iff_ne.mpr c55
                                      exact absurd ((Option.some.inj H).trans hrT_.out) (by simp)
                                  · rw [if_neg c54] at H
                                    exact absurd H (by simp)
                                · rw [if_neg c53] at H
                                  exact absurd H (by simp)
                            · rw [if_neg c46] at H
                              have c46b0 : decide (x15_4 ≤ (wrap64 ((l0.length : Int) + 1))) = false := decide_eq_false c46
                              clear c46
                              obtain rfl := Option.some.inj H
                              have hcz58_0 : wr.cell? ⟨gb158, 0, none⟩ = some (.int .i64 (wrap64 ((l0.length : Int) + 1))) := (blk_cell BK158.out 0).trans rfl
                              have hcz58_1 : wr.cell? ⟨gb158, 1, none⟩ = some (.int .i64 1) := (blk_cell BK158.out 1).trans rfl
                              have hcz58_2 : wr.cell? ⟨gb158, 2, none⟩ = some (.int .i64 (wrap64 ((l0.length : Int) + 1))) := (blk_cell BK158.out 2).trans rfl
                              have hcz58_3 : wr.cell? ⟨gb158, 3, none⟩ = some (.slice Ao34 x159003_2.length co34) := (blk_cell BK158.out 3).trans rfl
                              have hfz58_0 := blk_frozen BK158.out 0
                              have hfz58_1 := blk_frozen BK158.out 1
                              have hfz58_2 := blk_frozen BK158.out 2
                              have hfz58_3 := blk_frozen BK158.out 3
                              go_wp2
                              go_ret
                              exact ⟨by first | rfl | (simp [errW_none, errW_some] <;> rfl) | (simp [*, errW_none, errW_some] <;> rfl), by repeat (first | (with_reducible first | exact HB.out | apply below_alloc | apply pw_below_drewN | apply below_drew1 | refine below_set ?_ GE158.out) | exact HB.out)⟩
                · rw [if_neg c27] at H
                  exact absurd H (by simp)
              · rw [if_neg c26] at H
                exact absurd H (by simp)

/-- THE ONE PURE STATEMENT of racewaylaw7_LevelChain: yours. -/
def racewaylaw7_LevelChain.Pure : Prop := ∀ (l0 : List Int) (a1 : Int), l0.length ≤ maxLen → l0.length * 8 ≤ 140737488351232 → (∀ x ∈ l0, (Lit.int .i64 x).wf = true) → (Lit.int .i64 a1).wf = true → ∃ k, racewaylaw7_LevelChain.f k l0 a1 = some true
theorem racewaylaw7_LevelChain.walk (P : racewaylaw7_LevelChain.Pure) (a0 : Option Addr) (len0 cap0 : Nat) (z0 : List Int) (a1 : Int) (w : World) (w0 : (a0 = none ∧ len0 = 0 ∧ cap0 = 0 ∧ z0 = []) ∨ ∃ x, a0 = some x ∧ len0 ≤ cap0 ∧ cap0 ≤ maxLen ∧ z0.length = cap0 ∧ (∀ i, i < z0.length → w.cell? (x.add i) = some (.int .i64 (z0.getD i 0))) ∧ ∀ n ∈ z0, (Lit.int .i64 n).wf = true) (y0 : len0 * 8 ≤ 140737488351232) (w1 : (Lit.int .i64 a1).wf = true) :
    Calls Try.prog 6 #[.slice a0 len0 cap0, .int .i64 a1] w fun e w' => e = .returned (.bool true) ∧ Below w.heap.size w w' := by
  obtain ⟨l0, rfl, hr0, hm0, hw0, hc0⟩ := ReadsInt.ofRowC w0
  obtain ⟨k, h⟩ := P l0 a1 hm0 y0 hw0 w1
  refine (racewaylaw7_LevelChain.calls k _ _ l0 a1 true w (Kd.C_of_reads (d := (0 : Int)) (h1 := fun _ => rfl) hr0) hc0 h ⟨rfl⟩).mono ?_
  rintro e w' ⟨rfl, hd⟩
  exact ⟨rfl, hd⟩

end Go.Proofs.Ytbppeffcikphcaa.PLevelChain
