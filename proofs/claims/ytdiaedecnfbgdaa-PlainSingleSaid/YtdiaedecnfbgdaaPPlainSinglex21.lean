/- For the claim that the law PlainSingle of the given program holds for every input: a text written by a program (wip/myprint over the kit's print), with contracts by hand where it says MANUAL. -/
import Derived.Test.YtdiaedecnfbgdaaPPlainSinglex0
import Derived.Test.YtdiaedecnfbgdaaPPlainSinglex17
import Derived.Test.YtdiaedecnfbgdaaPPlainSinglex18
import Derived.Test.YtdiaedecnfbgdaaPPlainSinglex19
import Derived.Test.YtdiaedecnfbgdaaPPlainSinglex20
namespace Go.Proofs.Ytdiaedecnfbgdaa.PPlainSingle
open Go.RowKit Go.Proofs.YtdiaedecnfbgdaaW.PrintWords Go.Proofs.YtdiaedecnfbgdaaW.PrintLast Go.Proofs.YtdiaedecnfbgdaaW.PrintMore
attribute [local go_sem] max2_int min2_int max_two min_two max_three min_three max_four min_four   -- for this text's walks alone
set_option linter.unusedVariables false
set_option linter.unusedSimpArgs false

/-! ### racewaylaw8_PlainSingle: function 9 -/
mutual
def racewaylaw8_PlainSingle.j0 : Nat → List Int → Int → Bool → Bool → Option (Bool)
  | 0, _, _, _, _ => none
  | k + 1, x0, x1, x5, x22 => if x22 = true then (some x5) else ((racewaylaw8_pick.f x1 10).bind fun t165 => (racewaylaw8_PlainSingle.l0 k x0 (wrap64 (1 + t165)) ([] : List Int) 0 2 2 1 ([] : List (S30))))
def racewaylaw8_PlainSingle.l0 : Nat → List Int → Int → List Int → Int → Int → Int → Int → List (S30) → Option (Bool)
  | 0, _, _, _, _, _, _, _, _ => none
  | k + 1, x0, x7, x8, x9, x165000, x165001, x165002, x165003 => if x9 < (x0.length : Int) then (if 0 ≤ x9 then ((racewaylaw8_pick.f (rd x0 x9) 20).bind fun t167 => (if x165003.length < 5864062014805 then ((some (x165003 ++ [(⟨2, 1, t167⟩ : S30)] : List (S30))).bind fun y168 => (if t167 ≥ x7 then (if x8.length < 17592186044416 then (racewaylaw8_PlainSingle.l0 k x0 x7 (x8 ++ [wrap64 (2 * x9)]) (wrap64 (x9 + 1)) x165000 x165001 x165002 y168) else (none)) else (racewaylaw8_PlainSingle.l0 k x0 x7 x8 (wrap64 (x9 + 1)) x165000 x165001 x165002 y168))) else (none))) else (none)) else (if 0 ≤ (x0.length : Int) then (if ((x0.length : Int) : Int).toNat ≤ 35184372088832 then ((plain_Block.f k x165000 x165001 x165002 x165003 (List.replicate ((x0.length : Int) : Int).toNat 0) x7).bind fun bt177 => (if bt177.2.2 = 0 then (racewaylaw8_PlainSingle.j2 k x8 bt177.1 bt177.2.1 ((bt177.2.1.length : Int) != (x8.length : Int)) x165000 x165001 x165002 x165003) else (racewaylaw8_PlainSingle.j2 k x8 bt177.1 bt177.2.1 true x165000 x165001 x165002 x165003))) else (none)) else (none))
def racewaylaw8_PlainSingle.j2 : Nat → List Int → List Int → List (S61) → Bool → Int → Int → Int → List (S30) → Option (Bool)
  | 0, _, _, _, _, _, _, _, _ => none
  | k + 1, x8, x11, x12, x72, x165000, x165001, x165002, x165003 => if x72 = true then (some false) else (racewaylaw8_PlainSingle.l1 k x8 x11 x12 0 x165000 x165001 x165002 x165003)
def racewaylaw8_PlainSingle.l1 : Nat → List Int → List Int → List (S61) → Int → Int → Int → Int → List (S30) → Option (Bool)
  | 0, _, _, _, _, _, _, _, _ => none
  | k + 1, x8, x11, x12, x14, x165000, x165001, x165002, x165003 => if x14 < (x12.length : Int) then (if 0 ≤ x14 then (if x14 ≤ (wrap64 (x14 + 1)) then (if (wrap64 (x14 + 1)) ≤ (x8.length : Int) then ((racewaylaw8_same.f k ((rd_T61 x12 x14).f0) ((x8.take ((wrap64 (x14 + 1)) : Int).toNat).drop (x14 : Int).toNat)).bind fun t189 => (if t189 = true then (if x14 < (x8.length : Int) then (if 0 ≤ (wrap64 (Int.tdiv (rd x8 x14) 2)) then (if (wrap64 (Int.tdiv (rd x8 x14) 2)) < (x165003.length : Int) then (if ((rd_T61 x12 x14).f1) = ((rd_T30 x165003 (wrap64 (Int.tdiv (rd x8 x14) 2))).f2) then (if (wrap64 (Int.tdiv (rd x8 x14) 2)) < (x11.length : Int) then (if (rd x11 (wrap64 (Int.tdiv (rd x8 x14) 2))) = ((rd_T61 x12 x14).f1) then (racewaylaw8_PlainSingle.l1 k x8 x11 x12 (wrap64 (x14 + 1)) x165000 x165001 x165002 x165003) else (some false)) else (none)) else (some false)) else (none)) else (none)) else (none)) else (some false))) else (none)) else (none)) else (none)) else (some true)
end
def racewaylaw8_PlainSingle.f (k : Nat) (l0 : List Int) (a1 : Int) : Option (Bool) := (racewaylaw8_shown.f k).bind fun t163 => (if t163 = true then (racewaylaw8_PlainSingle.j0 k l0 a1 t163 (decide ((l0.length : Int) > 80))) else (racewaylaw8_PlainSingle.j0 k l0 a1 t163 true))
theorem racewaylaw8_PlainSingle.mono_l : ∀ k, (∀ y0 y1 y2 y3, LeO (racewaylaw8_PlainSingle.j0 k y0 y1 y2 y3) (racewaylaw8_PlainSingle.j0 (k + 1) y0 y1 y2 y3)) ∧ (∀ y0 y1 y2 y3 y4 y5 y6 y7, LeO (racewaylaw8_PlainSingle.l0 k y0 y1 y2 y3 y4 y5 y6 y7) (racewaylaw8_PlainSingle.l0 (k + 1) y0 y1 y2 y3 y4 y5 y6 y7)) ∧ (∀ y0 y1 y2 y3 y4 y5 y6 y7, LeO (racewaylaw8_PlainSingle.j2 k y0 y1 y2 y3 y4 y5 y6 y7) (racewaylaw8_PlainSingle.j2 (k + 1) y0 y1 y2 y3 y4 y5 y6 y7)) ∧ (∀ y0 y1 y2 y3 y4 y5 y6 y7, LeO (racewaylaw8_PlainSingle.l1 k y0 y1 y2 y3 y4 y5 y6 y7) (racewaylaw8_PlainSingle.l1 (k + 1) y0 y1 y2 y3 y4 y5 y6 y7))
  | 0 => ⟨fun _ _ _ _ r h => by simp [racewaylaw8_PlainSingle.j0] at h, fun _ _ _ _ _ _ _ _ r h => by simp [racewaylaw8_PlainSingle.l0] at h, fun _ _ _ _ _ _ _ _ r h => by simp [racewaylaw8_PlainSingle.j2] at h, fun _ _ _ _ _ _ _ _ r h => by simp [racewaylaw8_PlainSingle.l1] at h⟩
  | k + 1 => by
    obtain ⟨ih0, ih1, ih2, ih3⟩ := racewaylaw8_PlainSingle.mono_l k
    refine ⟨?_, ?_, ?_, ?_⟩
    · intro y0 y1 y2 y3
      unfold racewaylaw8_PlainSingle.j0
      repeat' first
      | (with_reducible exact ih0 _ _ _ _)
      | (with_reducible exact ih1 _ _ _ _ _ _ _ _)
      | (with_reducible exact ih2 _ _ _ _ _ _ _ _)
      | (with_reducible exact ih3 _ _ _ _ _ _ _ _)
      | (with_reducible exact plain_Block.mono _ _ _ _ _ _ _)
      | (with_reducible exact racewaylaw8_same.mono _ _ _)
      | (with_reducible exact racewaylaw8_shown.mono _)
      | (with_reducible exact LeO.refl _)
      | (with_reducible exact LeO.none _)
      | (with_reducible refine LeO.ite ?_ ?_)
      | (with_reducible refine LeO.bind ?_ (fun _ => ?_))
      | exact ih0 _ _ _ _
      | exact ih1 _ _ _ _ _ _ _ _
      | exact ih2 _ _ _ _ _ _ _ _
      | exact ih3 _ _ _ _ _ _ _ _
      | exact plain_Block.mono _ _ _ _ _ _ _
      | exact racewaylaw8_same.mono _ _ _
      | exact racewaylaw8_shown.mono _
      | exact LeO.none _
      | refine LeO.ite ?_ ?_
      | refine LeO.bind ?_ (fun _ => ?_)
    · intro y0 y1 y2 y3 y4 y5 y6 y7
      unfold racewaylaw8_PlainSingle.l0
      repeat' first
      | (with_reducible exact ih0 _ _ _ _)
      | (with_reducible exact ih1 _ _ _ _ _ _ _ _)
      | (with_reducible exact ih2 _ _ _ _ _ _ _ _)
      | (with_reducible exact ih3 _ _ _ _ _ _ _ _)
      | (with_reducible exact plain_Block.mono _ _ _ _ _ _ _)
      | (with_reducible exact racewaylaw8_same.mono _ _ _)
      | (with_reducible exact racewaylaw8_shown.mono _)
      | (with_reducible exact LeO.refl _)
      | (with_reducible exact LeO.none _)
      | (with_reducible refine LeO.ite ?_ ?_)
      | (with_reducible refine LeO.bind ?_ (fun _ => ?_))
      | exact ih0 _ _ _ _
      | exact ih1 _ _ _ _ _ _ _ _
      | exact ih2 _ _ _ _ _ _ _ _
      | exact ih3 _ _ _ _ _ _ _ _
      | exact plain_Block.mono _ _ _ _ _ _ _
      | exact racewaylaw8_same.mono _ _ _
      | exact racewaylaw8_shown.mono _
      | exact LeO.none _
      | refine LeO.ite ?_ ?_
      | refine LeO.bind ?_ (fun _ => ?_)
    · intro y0 y1 y2 y3 y4 y5 y6 y7
      unfold racewaylaw8_PlainSingle.j2
      repeat' first
      | (with_reducible exact ih0 _ _ _ _)
      | (with_reducible exact ih1 _ _ _ _ _ _ _ _)
      | (with_reducible exact ih2 _ _ _ _ _ _ _ _)
      | (with_reducible exact ih3 _ _ _ _ _ _ _ _)
      | (with_reducible exact plain_Block.mono _ _ _ _ _ _ _)
      | (with_reducible exact racewaylaw8_same.mono _ _ _)
      | (with_reducible exact racewaylaw8_shown.mono _)
      | (with_reducible exact LeO.refl _)
      | (with_reducible exact LeO.none _)
      | (with_reducible refine LeO.ite ?_ ?_)
      | (with_reducible refine LeO.bind ?_ (fun _ => ?_))
      | exact ih0 _ _ _ _
      | exact ih1 _ _ _ _ _ _ _ _
      | exact ih2 _ _ _ _ _ _ _ _
      | exact ih3 _ _ _ _ _ _ _ _
      | exact plain_Block.mono _ _ _ _ _ _ _
      | exact racewaylaw8_same.mono _ _ _
      | exact racewaylaw8_shown.mono _
      | exact LeO.none _
      | refine LeO.ite ?_ ?_
      | refine LeO.bind ?_ (fun _ => ?_)
    · intro y0 y1 y2 y3 y4 y5 y6 y7
      unfold racewaylaw8_PlainSingle.l1
      repeat' first
      | (with_reducible exact ih0 _ _ _ _)
      | (with_reducible exact ih1 _ _ _ _ _ _ _ _)
      | (with_reducible exact ih2 _ _ _ _ _ _ _ _)
      | (with_reducible exact ih3 _ _ _ _ _ _ _ _)
      | (with_reducible exact plain_Block.mono _ _ _ _ _ _ _)
      | (with_reducible exact racewaylaw8_same.mono _ _ _)
      | (with_reducible exact racewaylaw8_shown.mono _)
      | (with_reducible exact LeO.refl _)
      | (with_reducible exact LeO.none _)
      | (with_reducible refine LeO.ite ?_ ?_)
      | (with_reducible refine LeO.bind ?_ (fun _ => ?_))
      | exact ih0 _ _ _ _
      | exact ih1 _ _ _ _ _ _ _ _
      | exact ih2 _ _ _ _ _ _ _ _
      | exact ih3 _ _ _ _ _ _ _ _
      | exact plain_Block.mono _ _ _ _ _ _ _
      | exact racewaylaw8_same.mono _ _ _
      | exact racewaylaw8_shown.mono _
      | exact LeO.none _
      | refine LeO.ite ?_ ?_
      | refine LeO.bind ?_ (fun _ => ?_)
theorem racewaylaw8_PlainSingle.mono : ∀ a0 a1 k, LeO (racewaylaw8_PlainSingle.f k a0 a1) (racewaylaw8_PlainSingle.f (k + 1) a0 a1) := by
  intro a0 a1 k
  obtain ⟨ih0, ih1, ih2, ih3⟩ := racewaylaw8_PlainSingle.mono_l k
  unfold racewaylaw8_PlainSingle.f
  repeat' first
      | (with_reducible exact ih0 _ _ _ _)
      | (with_reducible exact ih1 _ _ _ _ _ _ _ _)
      | (with_reducible exact ih2 _ _ _ _ _ _ _ _)
      | (with_reducible exact ih3 _ _ _ _ _ _ _ _)
      | (with_reducible exact plain_Block.mono _ _ _ _ _ _ _)
      | (with_reducible exact racewaylaw8_same.mono _ _ _)
      | (with_reducible exact racewaylaw8_shown.mono _)
      | (with_reducible exact LeO.refl _)
      | (with_reducible exact LeO.none _)
      | (with_reducible refine LeO.ite ?_ ?_)
      | (with_reducible refine LeO.bind ?_ (fun _ => ?_))
      | exact ih0 _ _ _ _
      | exact ih1 _ _ _ _ _ _ _ _
      | exact ih2 _ _ _ _ _ _ _ _
      | exact ih3 _ _ _ _ _ _ _ _
      | exact plain_Block.mono _ _ _ _ _ _ _
      | exact racewaylaw8_same.mono _ _ _
      | exact racewaylaw8_shown.mono _
      | exact LeO.none _
      | refine LeO.ite ?_ ?_
      | refine LeO.bind ?_ (fun _ => ?_)
def racewaylaw8_PlainSingle.T14 : Bool × List (List Nat × List Nat) := (true, [([], []), ([], []), ([1], [1]), ([2, 2], [2]), ([], []), ([0, 3, 4], [0, 3, 4]), ([5], [5]), ([6], [6]), ([6], [6]), ([6], [6]), ([7, 5, 0, 1, 2, 3, 4, 5, 6, 7], [7]), ([8, 10, 0, 1, 2, 3, 4, 5, 6, 7, 8, 10], [8]), ([9, 11, 0, 1, 2, 3, 4, 5, 6, 7, 8, 9, 10, 11], [9])])
def racewaylaw8_PlainSingle.B14 : List Nat := [0, 0, 2, 6, 0, 31, 63, 127, 127, 127, 255, 1535, 4095]
theorem racewaylaw8_PlainSingle.tab14 : rtab .any (opsOf Try.f9 14) = racewaylaw8_PlainSingle.T14 := by kernel_rfl
theorem racewaylaw8_PlainSingle.bits14 : waitsOk racewaylaw8_PlainSingle.T14.2 racewaylaw8_PlainSingle.B14 = true := by kernel_rfl
def racewaylaw8_PlainSingle.T20 : Bool × List (List Nat × List Nat) := (true, [([], []), ([], []), ([0, 1], [0, 1]), ([2], [2]), ([3], [3]), ([], []), ([], []), ([], []), ([7], [7]), ([5, 6, 8], [5, 6, 8]), ([4, 9], [4, 9]), ([10], [10]), ([11, 10], [11]), ([12], [12]), ([12], [12]), ([13, 14, 12], [12, 13, 14]), ([15, 12], [12, 15]), ([16, 12], [12, 16]), ([12], [12]), ([18, 12], [12, 18]), ([12], [12]), ([12], [12]), ([20, 21, 12], [12, 20, 21]), ([22, 12], [12, 22]), ([23, 12], [12, 23]), ([19, 24, 12], [12, 19, 24]), ([25, 12], [12, 25]), ([26, 12], [12, 26]), ([17, 27, 12], [12, 17, 27]), ([12, 28], [12, 28]), ([29, 12], [29]), ([30], [30]), ([30], [30]), ([30], [30]), ([32, 33, 30], [30, 32, 33]), ([34, 30], [30, 34]), ([35, 30], [30, 35]), ([31, 36, 30], [30, 31, 36]), ([37, 30], [30, 37]), ([30], [30]), ([30], [30]), ([39, 40, 30], [30, 39, 40]), ([41, 30], [30, 41]), ([42, 30], [30, 42]), ([38, 43, 30], [30, 38, 43]), ([30, 44], [30, 44])])
def racewaylaw8_PlainSingle.B20 : List Nat := [0, 0, 3, 7, 15, 0, 0, 0, 128, 480, 1023, 2047, 4095, 8191, 8191, 32767, 65535, 131071, 8191, 270335, 8191, 8191, 3153919, 7348223, 15736831, 33300479, 66854911, 133963775, 268435455, 536870911, 1073741823, 2147483647, 2147483647, 2147483647, 15032385535, 32212254719, 66571993087, 137438953471, 274877906943, 2147483647, 2147483647, 1651414925311, 3850438180863, 8248484691967, 17592186044415, 35184372088831]
theorem racewaylaw8_PlainSingle.tab20 : rtab .any (opsOf Try.f9 20) = racewaylaw8_PlainSingle.T20 := by kernel_rfl
theorem racewaylaw8_PlainSingle.bits20 : waitsOk racewaylaw8_PlainSingle.T20.2 racewaylaw8_PlainSingle.B20 = true := by kernel_rfl
set_option maxHeartbeats 8000000 in
set_option maxRecDepth 100000 in
theorem racewaylaw8_PlainSingle.calls (k : Nat) (A0 : Option Addr) (c0 : Nat) (l0 : List Int) (a1 : Int) (r : Bool) (w : World) (hr0 : Kd.C (Kd.int .i64) w A0 l0.length l0) (hc0 : l0.length ≤ c0) (h : racewaylaw8_PlainSingle.f k l0 a1 = some r) (hrT_ : Aside0 (r = true)) :
    Calls Try.prog 9 #[.slice A0 l0.length c0, .int .i64 a1] w fun e w' => e = .returned (.bool r) ∧ Below w.heap.size w w' := by
  have hu26 := Try.underlying26
  have hu30 := Try.underlying30
  have HR0 := Aside0.mk hr0
  have HC0 := Aside0.mk hc0
  clear hr0 hc0
  have HB := Aside0.mk (Below.refl w.heap.size w)
  have H : ((racewaylaw8_shown.f k).bind fun t163 => (if t163 = true then (racewaylaw8_PlainSingle.j0 k l0 a1 t163 (decide ((l0.length : Int) > 80))) else (racewaylaw8_PlainSingle.j0 k l0 a1 t163 true))) = some r := h
  clear h
  replace H := Option.bind_eq_some_iff.mp H
  obtain ⟨t163, A30, H⟩ := H
  replace H : (if t163 = true then (racewaylaw8_PlainSingle.j0 k l0 a1 t163 (decide ((l0.length : Int) > 80))) else (racewaylaw8_PlainSingle.j0 k l0 a1 t163 true)) = some r := H
  have A3 := Aside0.mk A30
  clear A30
  have HC4 := Aside0.mk H
  clear H
  go_enter Try.func9, Try.ntmps9
  go_upto_region 2 with (first | ((with_reducible refine gate_callee (f := 24) rfl ?_); refine goesL_ (some 15) rfl rfl Try.func24 (by kernel_rfl) rfl #[] rfl (by (try simp only [List.map_toArray, List.map_cons, List.map_nil]); first | done | rfl | (simp only [List.length_drop, List.length_take]; rfl)) ?_; (with_reducible refine (racewaylaw8_shown.calls k  t163 _ A3.out).mono ?_); rintro e w5 ⟨rfl, hb⟩; refine ⟨_, rfl, ?_⟩; have n0_ := Aside0.mk (below_step (by repeat (first | (with_reducible first | exact HB.out | apply below_alloc | apply pw_below_drewN | apply below_drew1) | exact HB.out)) hb); clear HB; have HB := n0_; clear n0_; (try clear hb); (try clear hb2); (try clear hk); (try clear hi)))
  (try simp only [Act.put, List.setIfInBounds_toArray, List.set_cons_zero, List.set_cons_succ])
  go_cut [22] (fun v22 wc => ∃ (kq : Nat) (x22_3 : Bool), v22 = .bool x22_3 ∧ Aside0 (racewaylaw8_PlainSingle.j0 kq l0 a1 t163 x22_3 = some r) ∧ Aside0 (kq ≤ k) ∧ Aside0 (Below w.heap.size w wc))
  case first =>
    have H := HC4.out
    clear HC4
    by_cases c6 : t163 = true
    · subst c6
      have H1 : (racewaylaw8_PlainSingle.j0 k l0 a1 true (decide ((l0.length : Int) > 80))) = some r := by rw [if_pos rfl] at H; exact H
      clear H
      have H := H1
      clear H1
      as_aux_lemma =>
        have H' := Aside0.mk H
        clear H
        go_wp2
        go_meet
        case rel => exact ⟨_, (decide ((l0.length : Int) > 80)), (by first | rfl | (simp; done) | (simp [*]; done)), H', ⟨by first | omega | exact Nat.le_refl _⟩, ⟨by repeat (first | (with_reducible first | exact HB.out | apply below_alloc | apply pw_below_drewN | apply below_drew1) | exact HB.out)⟩⟩
    · replace c6 := Bool.eq_false_iff.mpr c6
      subst c6
      have H1 : (racewaylaw8_PlainSingle.j0 k l0 a1 false true) = some r := by rw [if_neg (show ¬ (false = true) by decide)] at H; exact H
      clear H
      have H := H1
      clear H1
      as_aux_lemma =>
        have H' := Aside0.mk H
        clear H
        go_wp2
        go_meet
        case rel => exact ⟨_, (true), (by first | rfl | (simp; done) | (simp [*]; done)), H', ⟨by first | omega | exact Nat.le_refl _⟩, ⟨by repeat (first | (with_reducible first | exact HB.out | apply below_alloc | apply pw_below_drewN | apply below_drew1) | exact HB.out)⟩⟩
  case rest =>
    clear HC4
    try clear c2
    try clear p2
    try clear c6
    obtain ⟨kq, x22_3, rfl, HA, HJ3, HB⟩ := hcut
    cases kq with
    | zero => exact absurd HA.out (by simp [racewaylaw8_PlainSingle.j0])
    | succ kj3 =>
      have H := HA.out
      clear HA
      simp only [racewaylaw8_PlainSingle.j0] at H
      by_cases c7 : x22_3 = true
      · subst c7
        have H1 : (some t163) = some r := by rw [if_pos rfl] at H; exact H
        clear H
        have H := H1
        clear H1
        as_aux_lemma =>
          obtain rfl := Option.some.inj H
          go_wp2
          go_ret
          exact ⟨by first | rfl | (simp [errW_none, errW_some] <;> rfl) | (simp [*, errW_none, errW_some] <;> rfl), by repeat (first | (with_reducible first | exact HB.out | apply below_alloc | apply pw_below_drewN | apply below_drew1) | exact HB.out)⟩
      · replace c7 := Bool.eq_false_iff.mpr c7
        subst c7
        have H1 : ((racewaylaw8_pick.f a1 10).bind fun t165 => (racewaylaw8_PlainSingle.l0 kj3 l0 (wrap64 (1 + t165)) ([] : List Int) 0 2 2 1 ([] : List (S30)))) = some r := by rw [if_neg (show ¬ (false = true) by decide)] at H; exact H
        clear H
        have H := H1
        clear H1
        replace H := Option.bind_eq_some_iff.mp H
        obtain ⟨t165, A80, H⟩ := H
        replace H : (racewaylaw8_PlainSingle.l0 kj3 l0 (wrap64 (1 + t165)) ([] : List Int) 0 2 2 1 ([] : List (S30))) = some r := H
        have A8 := Aside0.mk A80
        clear A80
        have H' := Aside0.mk H
        clear H
        go_wp2_with (first | ((with_reducible refine gate_dst (N := 6) rfl ?_); (try (refine gate_guard (by rfl) ?_; dsimp only)); refine box_event ?hg (N := 6) ?hd (cs := #[.int .i64 0, .int .i64 0, .int .i64 0, .slice none 0 0]) (t := 26) ?hr ?_; (case hd => rfl); (case hg => rfl); (case hr => first | (go_simp; done) | (go_simp; rfl)); intro gb164 hg w9 hbox hb; have n0_ := Aside0.mk (below_step (by repeat (first | (with_reducible first | exact HB.out | apply below_alloc | apply pw_below_drewN | apply below_drew1) | exact HB.out)) hb); have n1_ := Aside0.mk (hbox); have n2_ := Aside0.mk ((by rw [hg]; exact (below_size (by repeat (first | (with_reducible first | exact HB.out | apply below_alloc | apply pw_below_drewN | apply below_drew1) | exact HB.out))) : w.heap.size ≤ gb164)); have n3_ := Aside0.mk ((by rw [hg]; exact (below_size (by repeat (first | (with_reducible first | exact HB.out | apply below_alloc | apply pw_below_drewN | apply below_drew1) | exact HB.out))) : w.heap.size ≤ gb164)); clear HB; have HB := n0_; have BK164 := n1_; have GW164 := n2_; have GE164 := n3_; clear n0_ n1_ n2_ n3_; clear hb hbox hg; have hcz10_0 : w9.cell? ⟨gb164, 0, none⟩ = some (.int .i64 0) := (blk_cell BK164.out 0).trans rfl; have hcz10_1 : w9.cell? ⟨gb164, 1, none⟩ = some (.int .i64 0) := (blk_cell BK164.out 1).trans rfl; have hcz10_2 : w9.cell? ⟨gb164, 2, none⟩ = some (.int .i64 0) := (blk_cell BK164.out 2).trans rfl; have hcz10_3 : w9.cell? ⟨gb164, 3, none⟩ = some (.slice none 0 0) := (blk_cell BK164.out 3).trans rfl; have hfz10_0 := blk_frozen BK164.out 0; have hfz10_1 := blk_frozen BK164.out 1; have hfz10_2 := blk_frozen BK164.out 2; have hfz10_3 := blk_frozen BK164.out 3) | ((with_reducible refine gate_callee (f := 27) rfl ?_); refine goesL_ (some 26) rfl rfl Try.func27 (by kernel_rfl) rfl #[.int .i64 a1, .int .i64 10] rfl (by (try simp only [List.map_toArray, List.map_cons, List.map_nil]); first | done | rfl | (simp only [List.length_drop, List.length_take]; rfl)) ?_; (with_reducible refine (racewaylaw8_pick.calls a1 10 t165 _ A8.out).mono ?_); rintro e w' ⟨rfl, ⟨nd, rfl⟩⟩; refine ⟨_, rfl, ?_⟩))
        go_loopg [8, 9] kj3 (fun kq v8 v9 w' => ∃ (x8_2 : List Int) (x9_2 : Int) (x165003_2 : List (S30)) (u165003 : Value), v9 = .int .i64 x9_2 ∧ Aside0 (racewaylaw8_PlainSingle.l0 kq l0 (wrap64 (1 + t165)) x8_2 x9_2 2 2 1 x165003_2 = some r) ∧ Aside0 (kq ≤ kj3) ∧ Aside0 (Kd.R (Kd.int .i64) 3 w' w.heap.size (fun _ => True) v8 x8_2) ∧ Aside0 (Kd.R k30 30 w' w.heap.size (fun _ => True) u165003 x165003_2) ∧ Aside0 (w'.heap[gb164]? = some (.cells #[.int .i64 2, .int .i64 2, .int .i64 1, u165003] 26 (0, 0))) ∧ Aside0 (Below w.heap.size w w'))
        case atStart => exact ⟨(([] : List Int)), (0), (([] : List (S30))), (.slice none 0 0), (by first | rfl | (simp; done) | (simp [*]; done)), H', ⟨Nat.le_refl _⟩, ⟨by first | exact Kd.R_nil _ _ _ _ _ | exact Kd.N_nil _ _ _ _ _ | exact Kd.V_nil _ _ _ _ _ | exact Kd.Q_nil _ _ _ _ _ | exact Kd.S_nil _ _ _ _ _⟩, ⟨by first | exact Kd.R_nil _ _ _ _ _ | exact Kd.N_nil _ _ _ _ _ | exact Kd.V_nil _ _ _ _ _ | exact Kd.Q_nil _ _ _ _ _ | exact Kd.S_nil _ _ _ _ _⟩, ⟨by (with_reducible repeat (first | refine blk_drewN ?_ _ | refine blk_drew ?_ | refine blk_alloc ?_ _)); refine blk_put (cs := #[.int .i64 2, .int .i64 2, .int .i64 1, .slice none 0 0]) ?_ 3 _ rfl; (with_reducible repeat (first | refine blk_drewN ?_ _ | refine blk_drew ?_ | refine blk_alloc ?_ _)); refine blk_put (cs := #[.int .i64 2, .int .i64 2, .int .i64 0, .slice none 0 0]) ?_ 2 _ rfl; (with_reducible repeat (first | refine blk_drewN ?_ _ | refine blk_drew ?_ | refine blk_alloc ?_ _)); refine blk_put (cs := #[.int .i64 2, .int .i64 0, .int .i64 0, .slice none 0 0]) ?_ 1 _ rfl; (with_reducible repeat (first | refine blk_drewN ?_ _ | refine blk_drew ?_ | refine blk_alloc ?_ _)); refine blk_put (cs := #[.int .i64 0, .int .i64 0, .int .i64 0, .slice none 0 0]) ?_ 0 _ rfl; (with_reducible repeat (first | refine blk_drewN ?_ _ | refine blk_drew ?_ | refine blk_alloc ?_ _)); exact BK164.out⟩, ⟨by repeat (first | (with_reducible first | exact HB.out | apply below_alloc | apply pw_below_drewN | apply below_drew1 | refine below_set ?_ GE164.out) | exact HB.out)⟩⟩
        case round =>
          clear H'
          try clear c2
          try clear p2
          try clear c6
          try clear p6
          try clear c7
          try clear c9
          try clear hcz10_0
          try clear hcz10_1
          try clear hcz10_2
          try clear hcz10_3
          try clear hfz10_0
          try clear hfz10_1
          try clear hfz10_2
          try clear hfz10_3
          try clear p2
          obtain ⟨x8_2, x9_2, x165003_2, u165003, rfl, HA, HK2, HO_8, HO_165003, BK164, HB⟩ := hrel
          cases gk with
          | zero => exact absurd HA.out (by simp [racewaylaw8_PlainSingle.l0])
          | succ k2 =>
            have H := HA.out
            clear HA
            simp only [racewaylaw8_PlainSingle.l0] at H
            by_cases c11 : x9_2 < (l0.length : Int)
            · rw [if_pos c11] at H
              have c11b0 : decide (x9_2 < (l0.length : Int)) = true := decide_eq_true c11
              clear c11
              by_cases c12 : 0 ≤ x9_2
              · rw [if_pos c12] at H
                have c12b0 : decide (0 ≤ x9_2) = true := decide_eq_true c12
                clear c12
                replace H := Option.bind_eq_some_iff.mp H
                obtain ⟨t167, A130, H⟩ := H
                replace H : (if x165003_2.length < 5864062014805 then ((some (x165003_2 ++ [(⟨2, 1, t167⟩ : S30)] : List (S30))).bind fun y168 => (if t167 ≥ (wrap64 (1 + t165)) then (if x8_2.length < 17592186044416 then (racewaylaw8_PlainSingle.l0 k2 l0 (wrap64 (1 + t165)) (x8_2 ++ [wrap64 (2 * x9_2)]) (wrap64 (x9_2 + 1)) 2 2 1 y168) else (none)) else (racewaylaw8_PlainSingle.l0 k2 l0 (wrap64 (1 + t165)) x8_2 (wrap64 (x9_2 + 1)) 2 2 1 y168))) else (none)) = some r := H
                have A13 := Aside0.mk A130
                clear A130
                by_cases c14 : x165003_2.length < 5864062014805
                · rw [if_pos c14] at H
                  have LMc14 := Aside0.mk c14
                  clear c14
                  obtain ⟨y168, hy168⟩ : ∃ y_ : List (S30), y_ = (x165003_2 ++ [(⟨2, 1, t167⟩ : S30)]) := ⟨_, rfl⟩
                  replace H : (if t167 ≥ (wrap64 (1 + t165)) then (if x8_2.length < 17592186044416 then (racewaylaw8_PlainSingle.l0 k2 l0 (wrap64 (1 + t165)) (x8_2 ++ [wrap64 (2 * x9_2)]) (wrap64 (x9_2 + 1)) 2 2 1 y168) else (none)) else (racewaylaw8_PlainSingle.l0 k2 l0 (wrap64 (1 + t165)) x8_2 (wrap64 (x9_2 + 1)) 2 2 1 y168)) = some r := by first | (rw [hy168]; with_reducible exact H) | (have H2_ := (Option.bind_some _ _).symm.trans H; rw [hy168]; with_reducible exact H2_) | (have H2_ := (Option.bind_some _ _).symm.trans H; with_reducible exact H2_) | with_reducible exact H | (rw [hy168]; exact H) | exact H
                  have Ny168 := Aside0.mk hy168
                  clear hy168
                  by_cases c15 : t167 ≥ (wrap64 (1 + t165))
                  · rw [if_pos c15] at H
                    have c15b0 : decide ((wrap64 (1 + t165)) ≤ t167) = true := decide_eq_true c15
                    clear c15
                    by_cases c16 : x8_2.length < 17592186044416
                    · rw [if_pos c16] at H
                      have LMc16 := Aside0.mk c16
                      clear c16
                      obtain ⟨y171, hy171⟩ : ∃ y_ : List Int, y_ = (x8_2 ++ [wrap64 (2 * x9_2)]) := ⟨_, rfl⟩
                      replace H : (racewaylaw8_PlainSingle.l0 k2 l0 (wrap64 (1 + t165)) y171 (wrap64 (x9_2 + 1)) 2 2 1 y168) = some r := by first | (rw [hy171]; with_reducible exact H) | (have H2_ := (Option.bind_some _ _).symm.trans H; rw [hy171]; with_reducible exact H2_) | (have H2_ := (Option.bind_some _ _).symm.trans H; with_reducible exact H2_) | with_reducible exact H | (rw [hy171]; exact H) | exact H
                      have Ny171 := Aside0.mk hy171
                      clear hy171
                      as_aux_lemma =>
                        have H' := Aside0.mk H
                        clear H
                        have p166 : 0 ≤ (x9_2 : Int) := of_decide_eq_true (by first | (with_reducible assumption) | assumption)
                        have q166 : x9_2 < (l0.length : Int) := of_decide_eq_true (by first | (with_reducible assumption) | assumption)
                        obtain ⟨ad166, e166, hx166_0⟩ := Kd.at_int HR0.out x9_2 p166 q166
                        cases e166
                        replace hx166_0 := (HB.out.cell (World.block_lt_of_cell? w _ hx166_0)).trans hx166_0
                        replace p166 := eq_true p166
                        replace q166 := eq_true q166
                        go_wp2_with (first | ((with_reducible refine gate_callee (f := 27) rfl ?_); refine goesL_ (some 38) rfl rfl Try.func27 (by kernel_rfl) rfl #[.int .i64 (rd l0 x9_2), .int .i64 20] rfl (by (try simp only [List.map_toArray, List.map_cons, List.map_nil]); first | done | rfl | (simp only [List.length_drop, List.length_take]; rfl)) ?_; (with_reducible refine (racewaylaw8_pick.calls (rd l0 x9_2) 20 t167 _ A13.out).mono ?_); rintro e w' ⟨rfl, ⟨nd, rfl⟩⟩; refine ⟨_, rfl, ?_⟩; (try (rw [drewN_self wr]; generalize hq_ : World.drewN wr _ = wr; have n0_ : Aside0 (Kd.R k30 30 wr w.heap.size (fun _ => True) u165003 x165003_2) := ⟨by rw [← hq_]; exact (by (with_reducible repeat (first | apply Kd.R_alloc | apply Kd.R_drewN | apply Kd.R_drew)); exact HO_165003.out)⟩; have n1_ : Aside0 (Kd.R (Kd.int .i64) 3 wr w.heap.size (fun _ => True) u8 x8_2) := ⟨by rw [← hq_]; exact (by (with_reducible repeat (first | apply Kd.R_alloc | apply Kd.R_drewN | apply Kd.R_drew)); exact HO_8.out)⟩; have n2_ : Aside0 (wr.heap[gb164]? = some (.cells #[.int .i64 2, .int .i64 2, .int .i64 1, u165003] 26 (0, 0))) := ⟨by rw [← hq_]; exact (by (with_reducible repeat (first | refine blk_drewN ?_ _ | refine blk_drew ?_ | refine blk_alloc ?_ _)); exact BK164.out)⟩; have n3_ : Aside0 (Below w.heap.size w wr) := ⟨by rw [← hq_]; exact (by repeat (first | (with_reducible first | exact HB.out | apply below_alloc | apply pw_below_drewN | apply below_drew1 | refine below_set ?_ GE164.out) | exact HB.out))⟩; clear HO_165003 HO_8 BK164 HB hq_; have HO_165003 := n0_; have HO_8 := n1_; have BK164 := n2_; have HB := n3_; clear n0_ n1_ n2_ n3_; have hcqBK164_0 : wr.cell? ⟨gb164, 0, none⟩ = some (.int .i64 2) := (blk_cell BK164.out 0).trans rfl; have hfqBK164_0 := blk_frozen BK164.out 0; have hcqBK164_1 : wr.cell? ⟨gb164, 1, none⟩ = some (.int .i64 2) := (blk_cell BK164.out 1).trans rfl; have hfqBK164_1 := blk_frozen BK164.out 1; have hcqBK164_2 : wr.cell? ⟨gb164, 2, none⟩ = some (.int .i64 1) := (blk_cell BK164.out 2).trans rfl; have hfqBK164_2 := blk_frozen BK164.out 2; have hcqBK164_3 : wr.cell? ⟨gb164, 3, none⟩ = some (u165003) := (blk_cell BK164.out 3).trans rfl; have hfqBK164_3 := blk_frozen BK164.out 3)); have hcz17_0 : wr.cell? ⟨gb164, 0, none⟩ = some (.int .i64 2) := (blk_cell BK164.out 0).trans rfl; have hcz17_1 : wr.cell? ⟨gb164, 1, none⟩ = some (.int .i64 2) := (blk_cell BK164.out 1).trans rfl; have hcz17_2 : wr.cell? ⟨gb164, 2, none⟩ = some (.int .i64 1) := (blk_cell BK164.out 2).trans rfl; have hcz17_3 : wr.cell? ⟨gb164, 3, none⟩ = some (u165003) := (blk_cell BK164.out 3).trans rfl; have hfz17_0 := blk_frozen BK164.out 0; have hfz17_1 := blk_frozen BK164.out 1; have hfz17_2 := blk_frozen BK164.out 2; have hfz17_3 := blk_frozen BK164.out 3) | ((with_reducible refine gate_builtin (b := .append) (xs := #[.tmp 40, .tmp 43]) rfl ?_); (try (refine gate_guard (by rfl) ?_; dsimp only)); at_builtin; refine Kd.R_append k30 (w0 := w) w.heap.size rfl (.tmp 40) (.tmp 43) 24 30 (.agg #[(.int .i64 0), (.int .i64 0), (.int .i64 0)]) 24 rfl Try.underlying24 info30 rfl (by decide) (by omega) u165003 x165003_2 (⟨2, 1, t167⟩ : S30) [.int .i64 2, .int .i64 1, .int .i64 t167] (fun _ => True) (fun _ => False) rfl rfl ?aP (fun _ hk => hk.elim) ?aF ?aO ?aB ?aS ?aL ?_; (case aP => exact k30_mkM _ _ _ (⟨2, 1, t167⟩ : S30)); (case aB => exact (by repeat (first | (with_reducible first | exact HB.out | apply below_alloc | apply pw_below_drewN | apply below_drew1 | refine below_set ?_ GE164.out) | exact HB.out))); (case aF => exact (fun _ _ => trivial)); (case aO => exact (by (with_reducible repeat (first | apply Kd.R_alloc | apply Kd.R_drewN | apply Kd.R_drew)); exact HO_165003.out)); (case aS => exact (below_size (by repeat (first | (with_reducible first | exact HB.out | apply below_alloc | apply pw_below_drewN | apply below_drew1 | refine below_set ?_ GE164.out) | exact HB.out)))); (case aL => have := LMc14.out; omega); intro v169 w18 ho hb hg hat; rw [← Ny168.out] at ho; have n0_ := Aside0.mk (Kd.R_over' (by (with_reducible repeat (first | apply Kd.R_alloc | apply Kd.R_drewN | apply Kd.R_drew)); exact HO_8.out) (Kd.R_typed (by (with_reducible repeat (first | apply Kd.R_alloc | apply Kd.R_drewN | apply Kd.R_drew)); exact HO_165003.out)) (by decide) hg); have n1_ := Aside0.mk (blk_grown (g := gb164) (o := .cells #[.int .i64 2, .int .i64 2, .int .i64 1, u165003] 26 (0, 0)) (by (with_reducible repeat (first | refine blk_drewN ?_ _ | refine blk_drew ?_ | refine blk_alloc ?_ _)); exact BK164.out) hg (Kd.R_ne HO_165003.out BK164.out (by decide))); have n2_ := Aside0.mk (hb); have n3_ := Aside0.mk (ho); clear HO_8; clear BK164; clear HB; clear HO_165003; have HO_8 := n0_; have BK164 := n1_; have HB := n2_; have HO170 := n3_; clear n0_ n1_ n2_ n3_; clear ho hb hg hat; obtain ⟨Ao19, co19, eo19⟩ := Kd.R_slice HO170.out; subst eo19; have hcz20_0 : w18.cell? ⟨gb164, 0, none⟩ = some (.int .i64 2) := (blk_cell BK164.out 0).trans rfl; have hcz20_1 : w18.cell? ⟨gb164, 1, none⟩ = some (.int .i64 2) := (blk_cell BK164.out 1).trans rfl; have hcz20_2 : w18.cell? ⟨gb164, 2, none⟩ = some (.int .i64 1) := (blk_cell BK164.out 2).trans rfl; have hcz20_3 : w18.cell? ⟨gb164, 3, none⟩ = some (u165003) := (blk_cell BK164.out 3).trans rfl; have hfz20_0 := blk_frozen BK164.out 0; have hfz20_1 := blk_frozen BK164.out 1; have hfz20_2 := blk_frozen BK164.out 2; have hfz20_3 := blk_frozen BK164.out 3) | ((with_reducible refine gate_builtin (b := .append) (xs := #[.tmp 49, .tmp 52]) rfl ?_); (try (refine gate_guard (by rfl) ?_; dsimp only)); at_builtin; refine Kd.R_append (Kd.int .i64) (w0 := w) w.heap.size rfl (.tmp 49) (.tmp 52) 22 3 (.int .i64 0) 8 rfl Try.underlying22 info3 rfl (by decide) (by omega) u8 x8_2 (wrap64 (2 * x9_2)) [.int .i64 (wrap64 (2 * x9_2))] (fun _ => True) (fun _ => False) rfl (by first | (go_simp; done) | (go_simp; rfl)) ?aP (fun _ hk => hk.elim) ?aF ?aO ?aB ?aS ?aL ?_; (case aP => exact rfl); (case aB => exact (by repeat (first | (with_reducible first | exact HB.out | apply below_alloc | apply pw_below_drewN | apply below_drew1 | refine below_set ?_ GE164.out) | exact HB.out))); (case aF => exact (fun _ _ => trivial)); (case aO => exact (by (with_reducible repeat (first | apply Kd.R_alloc | apply Kd.R_drewN | apply Kd.R_drew)); exact Kd.R_mono (Kd.R_far (p := ⟨gb164, 3, none⟩) (Kd.R_types HO_8.out BK164.out (by decide)) (fun _ hk => hk.2) (.slice Ao19 y168.length co19)) (fun _ hk => trivial))); (case aS => exact (below_size (by repeat (first | (with_reducible first | exact HB.out | apply below_alloc | apply pw_below_drewN | apply below_drew1 | refine below_set ?_ GE164.out) | exact HB.out)))); (case aL => have := LMc16.out; omega); intro v172 w21 ho hb hg hat; rw [← Ny171.out] at ho; have n0_ := Aside0.mk (blk_grown (g := gb164) (o := .cells #[.int .i64 2, .int .i64 2, .int .i64 1, .slice Ao19 y168.length co19] 26 (0, 0)) (by (with_reducible repeat (first | refine blk_drewN ?_ _ | refine blk_drew ?_ | refine blk_alloc ?_ _)); refine blk_put (cs := #[.int .i64 2, .int .i64 2, .int .i64 1, u165003]) ?_ 3 _ rfl; (with_reducible repeat (first | refine blk_drewN ?_ _ | refine blk_drew ?_ | refine blk_alloc ?_ _)); exact BK164.out) hg (Kd.R_ne HO_8.out BK164.out (by decide))); have n1_ := Aside0.mk (Kd.R_over' (by (with_reducible repeat (first | apply Kd.R_alloc | apply Kd.R_drewN | apply Kd.R_drew)); exact (Kd.R_mono (Kd.R_far (p := ⟨gb164, 3, none⟩) (Kd.R_types HO170.out BK164.out (by decide)) (fun _ hk => hk.2) (.slice Ao19 y168.length co19)) (fun _ h_ => h_.1))) (Kd.R_typed (by (with_reducible repeat (first | apply Kd.R_alloc | apply Kd.R_drewN | apply Kd.R_drew)); exact (Kd.R_mono (Kd.R_far (p := ⟨gb164, 3, none⟩) (Kd.R_types HO_8.out BK164.out (by decide)) (fun _ hk => hk.2) (.slice Ao19 y168.length co19)) (fun _ h_ => h_.1)))) (by decide) hg); have n2_ := Aside0.mk (hb); have n3_ := Aside0.mk (ho); clear BK164; clear HO170; clear HB; clear HO_8; have BK164 := n0_; have HO170 := n1_; have HB := n2_; have HO173 := n3_; clear n0_ n1_ n2_ n3_; clear ho hb hg hat))
                        go_roundg k2
                        case measure => have := HJ3.out; have := HK2.out; omega
                        case rel => exact ⟨(y171), (wrap64 (x9_2 + 1)), (y168), (.slice Ao19 y168.length co19), (by first | rfl | (simp; done) | (simp [*]; done)), H', ⟨by have := HJ3.out; have := HK2.out; omega⟩, ⟨by (with_reducible repeat (first | apply Kd.R_alloc | apply Kd.R_drewN | apply Kd.R_drew)); exact HO173.out⟩, ⟨by (with_reducible repeat (first | apply Kd.R_alloc | apply Kd.R_drewN | apply Kd.R_drew)); exact HO170.out⟩, ⟨by (with_reducible repeat (first | refine blk_drewN ?_ _ | refine blk_drew ?_ | refine blk_alloc ?_ _)); exact BK164.out⟩, ⟨by repeat (first | (with_reducible first | exact HB.out | apply below_alloc | apply pw_below_drewN | apply below_drew1 | refine below_set ?_ GE164.out) | exact HB.out)⟩⟩
                    · rw [if_neg c16] at H
                      exact absurd H (by simp)
                  · rw [if_neg c15] at H
                    have c15b0 : decide ((wrap64 (1 + t165)) ≤ t167) = false := decide_eq_false c15
                    clear c15
                    as_aux_lemma =>
                      have H' := Aside0.mk H
                      clear H
                      have p166 : 0 ≤ (x9_2 : Int) := of_decide_eq_true (by first | (with_reducible assumption) | assumption)
                      have q166 : x9_2 < (l0.length : Int) := of_decide_eq_true (by first | (with_reducible assumption) | assumption)
                      obtain ⟨ad166, e166, hx166_0⟩ := Kd.at_int HR0.out x9_2 p166 q166
                      cases e166
                      replace hx166_0 := (HB.out.cell (World.block_lt_of_cell? w _ hx166_0)).trans hx166_0
                      replace p166 := eq_true p166
                      replace q166 := eq_true q166
                      go_wp2_with (first | ((with_reducible refine gate_callee (f := 27) rfl ?_); refine goesL_ (some 38) rfl rfl Try.func27 (by kernel_rfl) rfl #[.int .i64 (rd l0 x9_2), .int .i64 20] rfl (by (try simp only [List.map_toArray, List.map_cons, List.map_nil]); first | done | rfl | (simp only [List.length_drop, List.length_take]; rfl)) ?_; (with_reducible refine (racewaylaw8_pick.calls (rd l0 x9_2) 20 t167 _ A13.out).mono ?_); rintro e w' ⟨rfl, ⟨nd, rfl⟩⟩; refine ⟨_, rfl, ?_⟩; (try (rw [drewN_self wr]; generalize hq_ : World.drewN wr _ = wr; have n0_ : Aside0 (Kd.R k30 30 wr w.heap.size (fun _ => True) u165003 x165003_2) := ⟨by rw [← hq_]; exact (by (with_reducible repeat (first | apply Kd.R_alloc | apply Kd.R_drewN | apply Kd.R_drew)); exact HO_165003.out)⟩; have n1_ : Aside0 (Kd.R (Kd.int .i64) 3 wr w.heap.size (fun _ => True) u8 x8_2) := ⟨by rw [← hq_]; exact (by (with_reducible repeat (first | apply Kd.R_alloc | apply Kd.R_drewN | apply Kd.R_drew)); exact HO_8.out)⟩; have n2_ : Aside0 (wr.heap[gb164]? = some (.cells #[.int .i64 2, .int .i64 2, .int .i64 1, u165003] 26 (0, 0))) := ⟨by rw [← hq_]; exact (by (with_reducible repeat (first | refine blk_drewN ?_ _ | refine blk_drew ?_ | refine blk_alloc ?_ _)); exact BK164.out)⟩; have n3_ : Aside0 (Below w.heap.size w wr) := ⟨by rw [← hq_]; exact (by repeat (first | (with_reducible first | exact HB.out | apply below_alloc | apply pw_below_drewN | apply below_drew1 | refine below_set ?_ GE164.out) | exact HB.out))⟩; clear HO_165003 HO_8 BK164 HB hq_; have HO_165003 := n0_; have HO_8 := n1_; have BK164 := n2_; have HB := n3_; clear n0_ n1_ n2_ n3_; have hcqBK164_0 : wr.cell? ⟨gb164, 0, none⟩ = some (.int .i64 2) := (blk_cell BK164.out 0).trans rfl; have hfqBK164_0 := blk_frozen BK164.out 0; have hcqBK164_1 : wr.cell? ⟨gb164, 1, none⟩ = some (.int .i64 2) := (blk_cell BK164.out 1).trans rfl; have hfqBK164_1 := blk_frozen BK164.out 1; have hcqBK164_2 : wr.cell? ⟨gb164, 2, none⟩ = some (.int .i64 1) := (blk_cell BK164.out 2).trans rfl; have hfqBK164_2 := blk_frozen BK164.out 2; have hcqBK164_3 : wr.cell? ⟨gb164, 3, none⟩ = some (u165003) := (blk_cell BK164.out 3).trans rfl; have hfqBK164_3 := blk_frozen BK164.out 3)); have hcz22_0 : wr.cell? ⟨gb164, 0, none⟩ = some (.int .i64 2) := (blk_cell BK164.out 0).trans rfl; have hcz22_1 : wr.cell? ⟨gb164, 1, none⟩ = some (.int .i64 2) := (blk_cell BK164.out 1).trans rfl; have hcz22_2 : wr.cell? ⟨gb164, 2, none⟩ = some (.int .i64 1) := (blk_cell BK164.out 2).trans rfl; have hcz22_3 : wr.cell? ⟨gb164, 3, none⟩ = some (u165003) := (blk_cell BK164.out 3).trans rfl; have hfz22_0 := blk_frozen BK164.out 0; have hfz22_1 := blk_frozen BK164.out 1; have hfz22_2 := blk_frozen BK164.out 2; have hfz22_3 := blk_frozen BK164.out 3) | ((with_reducible refine gate_builtin (b := .append) (xs := #[.tmp 40, .tmp 43]) rfl ?_); (try (refine gate_guard (by rfl) ?_; dsimp only)); at_builtin; refine Kd.R_append k30 (w0 := w) w.heap.size rfl (.tmp 40) (.tmp 43) 24 30 (.agg #[(.int .i64 0), (.int .i64 0), (.int .i64 0)]) 24 rfl Try.underlying24 info30 rfl (by decide) (by omega) u165003 x165003_2 (⟨2, 1, t167⟩ : S30) [.int .i64 2, .int .i64 1, .int .i64 t167] (fun _ => True) (fun _ => False) rfl rfl ?aP (fun _ hk => hk.elim) ?aF ?aO ?aB ?aS ?aL ?_; (case aP => exact k30_mkM _ _ _ (⟨2, 1, t167⟩ : S30)); (case aB => exact (by repeat (first | (with_reducible first | exact HB.out | apply below_alloc | apply pw_below_drewN | apply below_drew1 | refine below_set ?_ GE164.out) | exact HB.out))); (case aF => exact (fun _ _ => trivial)); (case aO => exact (by (with_reducible repeat (first | apply Kd.R_alloc | apply Kd.R_drewN | apply Kd.R_drew)); exact HO_165003.out)); (case aS => exact (below_size (by repeat (first | (with_reducible first | exact HB.out | apply below_alloc | apply pw_below_drewN | apply below_drew1 | refine below_set ?_ GE164.out) | exact HB.out)))); (case aL => have := LMc14.out; omega); intro v169 w23 ho hb hg hat; rw [← Ny168.out] at ho; have n0_ := Aside0.mk (Kd.R_over' (by (with_reducible repeat (first | apply Kd.R_alloc | apply Kd.R_drewN | apply Kd.R_drew)); exact HO_8.out) (Kd.R_typed (by (with_reducible repeat (first | apply Kd.R_alloc | apply Kd.R_drewN | apply Kd.R_drew)); exact HO_165003.out)) (by decide) hg); have n1_ := Aside0.mk (blk_grown (g := gb164) (o := .cells #[.int .i64 2, .int .i64 2, .int .i64 1, u165003] 26 (0, 0)) (by (with_reducible repeat (first | refine blk_drewN ?_ _ | refine blk_drew ?_ | refine blk_alloc ?_ _)); exact BK164.out) hg (Kd.R_ne HO_165003.out BK164.out (by decide))); have n2_ := Aside0.mk (hb); have n3_ := Aside0.mk (ho); clear HO_8; clear BK164; clear HB; clear HO_165003; have HO_8 := n0_; have BK164 := n1_; have HB := n2_; have HO170 := n3_; clear n0_ n1_ n2_ n3_; clear ho hb hg hat; obtain ⟨Ao24, co24, eo24⟩ := Kd.R_slice HO170.out; subst eo24; have hcz25_0 : w23.cell? ⟨gb164, 0, none⟩ = some (.int .i64 2) := (blk_cell BK164.out 0).trans rfl; have hcz25_1 : w23.cell? ⟨gb164, 1, none⟩ = some (.int .i64 2) := (blk_cell BK164.out 1).trans rfl; have hcz25_2 : w23.cell? ⟨gb164, 2, none⟩ = some (.int .i64 1) := (blk_cell BK164.out 2).trans rfl; have hcz25_3 : w23.cell? ⟨gb164, 3, none⟩ = some (u165003) := (blk_cell BK164.out 3).trans rfl; have hfz25_0 := blk_frozen BK164.out 0; have hfz25_1 := blk_frozen BK164.out 1; have hfz25_2 := blk_frozen BK164.out 2; have hfz25_3 := blk_frozen BK164.out 3))
                      go_roundg k2
                      case measure => have := HJ3.out; have := HK2.out; omega
                      case rel => exact ⟨(x8_2), (wrap64 (x9_2 + 1)), (y168), (.slice Ao24 y168.length co24), (by first | rfl | (simp; done) | (simp [*]; done)), H', ⟨by have := HJ3.out; have := HK2.out; omega⟩, ⟨by (with_reducible repeat (first | apply Kd.R_alloc | apply Kd.R_drewN | apply Kd.R_drew)); exact Kd.R_mono (Kd.R_far (p := ⟨gb164, 3, none⟩) (Kd.R_types HO_8.out BK164.out (by decide)) (fun _ hk => hk.2) (.slice Ao24 y168.length co24)) (fun _ hk => trivial)⟩, ⟨by (with_reducible repeat (first | apply Kd.R_alloc | apply Kd.R_drewN | apply Kd.R_drew)); exact Kd.R_mono (Kd.R_far (p := ⟨gb164, 3, none⟩) (Kd.R_types HO170.out BK164.out (by decide)) (fun _ hk => hk.2) (.slice Ao24 y168.length co24)) (fun _ hk => trivial)⟩, ⟨by (with_reducible repeat (first | refine blk_drewN ?_ _ | refine blk_drew ?_ | refine blk_alloc ?_ _)); refine blk_put (cs := #[.int .i64 2, .int .i64 2, .int .i64 1, u165003]) ?_ 3 _ rfl; (with_reducible repeat (first | refine blk_drewN ?_ _ | refine blk_drew ?_ | refine blk_alloc ?_ _)); exact BK164.out⟩, ⟨by repeat (first | (with_reducible first | exact HB.out | apply below_alloc | apply pw_below_drewN | apply below_drew1 | refine below_set ?_ GE164.out) | exact HB.out)⟩⟩
                · rw [if_neg c14] at H
                  exact absurd H (by simp)
              · rw [if_neg c12] at H
                exact absurd H (by simp)
            · rw [if_neg c11] at H
              have c11b0 : decide (x9_2 < (l0.length : Int)) = false := decide_eq_false c11
              clear c11
              by_cases c26 : 0 ≤ (l0.length : Int)
              · rw [if_pos c26] at H
                have c26b0 := eq_true c26
                have c26b1 : decide (0 ≤ (l0.length : Int)) = true := decide_eq_true c26
                clear c26
                by_cases c27 : ((l0.length : Int) : Int).toNat ≤ 35184372088832
                · rw [if_pos c27] at H
                  have c27b0 := eq_true c27
                  have c27b1 : decide (((l0.length : Int) : Int).toNat ≤ 35184372088832) = true := decide_eq_true c27
                  clear c27
                  obtain ⟨y174, hy174⟩ : ∃ y_ : List Int, y_ = (List.replicate ((l0.length : Int) : Int).toNat 0) := ⟨_, rfl⟩
                  replace H : ((plain_Block.f k2 2 2 1 x165003_2 y174 (wrap64 (1 + t165))).bind fun bt177 => (if bt177.2.2 = 0 then (racewaylaw8_PlainSingle.j2 k2 x8_2 bt177.1 bt177.2.1 ((bt177.2.1.length : Int) != (x8_2.length : Int)) 2 2 1 x165003_2) else (racewaylaw8_PlainSingle.j2 k2 x8_2 bt177.1 bt177.2.1 true 2 2 1 x165003_2))) = some r := by first | (rw [hy174]; with_reducible exact H) | (have H2_ := (Option.bind_some _ _).symm.trans H; rw [hy174]; with_reducible exact H2_) | (have H2_ := (Option.bind_some _ _).symm.trans H; with_reducible exact H2_) | with_reducible exact H | (rw [hy174]; exact H) | exact H
                  have Ny174 := Aside0.mk hy174
                  clear hy174
                  replace H := Option.bind_eq_some_iff.mp H
                  obtain ⟨⟨t177, t180, t183⟩, A280, H⟩ := H
                  replace H : (if t183 = 0 then (racewaylaw8_PlainSingle.j2 k2 x8_2 t177 t180 ((t180.length : Int) != (x8_2.length : Int)) 2 2 1 x165003_2) else (racewaylaw8_PlainSingle.j2 k2 x8_2 t177 t180 true 2 2 1 x165003_2)) = some r := H
                  have A28 := Aside0.mk A280
                  clear A280
                  have HC29 := Aside0.mk H
                  clear H
                  try go_wp2
                  have n0_ := Aside0.mk (Kd.R_drew HO_8.out)
                  have n1_ := Aside0.mk (Kd.R_drew HO_165003.out)
                  have n2_ := Aside0.mk (blk_drew BK164.out)
                  have n3_ := Aside0.mk (below_drew1 HB.out)
                  clear HO_8
                  clear HO_165003
                  clear BK164
                  clear HB
                  have HO_8 := n0_
                  have HO_165003 := n1_
                  have BK164 := n2_
                  have HB := n3_
                  clear n0_ n1_ n2_ n3_
                  refine start_ (n := 13) (S := fun w' => w'.cell? ⟨gb164, 0, none⟩ = some (.int .i64 2) ∧ w'.cell? ⟨gb164, 1, none⟩ = some (.int .i64 2) ∧ w'.cell? ⟨gb164, 2, none⟩ = some (.int .i64 1) ∧ w'.cell? ⟨gb164, 3, none⟩ = some (u165003)) (ds := []) #[false, false, false, false, false, false, false, false, false, false, false, false, false] (by kernel_rfl) rfl rfl ⟨(blk_cell BK164.out 0).trans rfl, (blk_cell BK164.out 1).trans rfl, (blk_cell BK164.out 2).trans rfl, (blk_cell BK164.out 3).trans rfl⟩ (fun hHeld => ?_); refine with_tabW racewaylaw8_PlainSingle.tab14 racewaylaw8_PlainSingle.bits14 (fun HT_ HW_ => ?_)
                  generalize wr.drew = w30 at HO_8 HO_165003 BK164 HB hHeld ⊢
                  refine pure_ (i := 1) (N := some 56) (v := ?_) (a' := ?_) #[false, true, false, false, false, false, false, false, false, false, false, false, false] rfl rfl (any_of HT_.out (by kernel_rfl)) (fun _ _ _ h => h) (Or.inl ⟨by rfl, ?_⟩) ?_ ?_
                  rotate_left
                  · intro w'
                    go_simp
                    with_reducible rfl
                  rotate_left
                  · simp only [Act.put, List.setIfInBounds_toArray, List.set_cons_zero, List.set_cons_succ, i64_w, i32_w]
                    rfl
                  refine pure_ (i := 2) (N := some 57) (v := ?_) (a' := ?_) #[false, true, true, false, false, false, false, false, false, false, false, false, false] rfl rfl (any_of HT_.out (by kernel_rfl)) (fun _ _ _ h => h) (Or.inl ⟨by rfl, ?_⟩) ?_ ?_
                  rotate_left
                  · intro w'
                    go_simp
                    with_reducible rfl
                  rotate_left
                  · simp only [Act.put, List.setIfInBounds_toArray, List.set_cons_zero, List.set_cons_succ, i64_w, i32_w]
                    rfl
                  refine pure_ (i := 4) (N := some 59) (v := ?_) (a' := ?_) #[false, true, true, false, true, false, false, false, false, false, false, false, false] rfl rfl (any_of HT_.out (by kernel_rfl)) (fun _ _ _ h => h) (Or.inl ⟨by rfl, ?_⟩) ?_ ?_
                  rotate_left
                  · intro w'
                    go_simp
                    with_reducible rfl
                  rotate_left
                  · simp only [Act.put, List.setIfInBounds_toArray, List.set_cons_zero, List.set_cons_succ, i64_w, i32_w]
                    rfl
                  refine take_ (i := 0) (N := some 55) (v := ?_) (a' := ?_) #[true, true, true, false, true, false, false, false, false, false, false, false, false] rfl rfl (take_ofW HT_.out HW_.out (by kernel_rfl)) (fun _ _ _ h => h) (Or.inl ⟨by rfl, ?_⟩) hHeld ?_ ?_
                  rotate_left
                  · rintro w' ⟨s0, s1, s2, s3⟩
                    go_simp
                    with_reducible rfl
                  rotate_left
                  · simp only [Act.put, List.setIfInBounds_toArray, List.set_cons_zero, List.set_cons_succ, i64_w, i32_w]
                    rfl
                  refine one_ (i := 3) (N := some 58) #[true, true, true, true, true, false, false, false, false, false, false, false, false] rfl rfl (one_of HT_.out (by kernel_rfl)) (by decide) (fun K hK => ?_)
                  refine Kd.R_make_step (Kd.int .i64) _ 2 (by rfl) (N := 58) rfl 27 _ _ rfl (l0.length : Int) rfl rfl Try.underlying27 (.int .i64 0) 8 info2 rfl (by decide) (by omega) 0 (ok := fun _ => True) (okp := fun _ => True) rfl (fun _ hk => hk) trivial (of_decide_eq_true (by first | (with_reducible assumption) | assumption)) (Nat.le_trans (Nat.mul_le_mul_right _ (of_decide_eq_true (by first | (with_reducible assumption) | assumption) : (l0.length : Int).toNat ≤ 35184372088832)) (by omega)) (Below.refl _ _) (Nat.le_refl _) ?_
                  intro v175 w31 ho32 hb hg_ hnew_
                  clear hg_ hnew_
                  (first | rw [← Ny174.out] at ho32 | (simp only [Int.reduceToNat] at ho32; rw [← Ny174.out] at ho32))
                  have n0_ := Aside0.mk (Kd.R_below (by (with_reducible repeat (first | apply Kd.R_alloc | apply Kd.R_drewN | apply Kd.R_drew)); exact HO_8.out) hb)
                  have n1_ := Aside0.mk (Kd.R_below (by (with_reducible repeat (first | apply Kd.R_alloc | apply Kd.R_drewN | apply Kd.R_drew)); exact HO_165003.out) hb)
                  have n2_ := Aside0.mk (Kd.R_lower ho32 (below_size (by repeat (first | (with_reducible first | exact HB.out | apply below_alloc | apply pw_below_drewN | apply below_drew1 | refine below_set ?_ GE164.out) | exact HB.out))))
                  have n3_ := Aside0.mk (blk_below (g := gb164) (o := .cells #[.int .i64 2, .int .i64 2, .int .i64 1, u165003] 26 (0, 0)) (by (with_reducible repeat (first | refine blk_drewN ?_ _ | refine blk_drew ?_ | refine blk_alloc ?_ _)); exact BK164.out) hb)
                  have n4_ := Aside0.mk (below_step (by repeat (first | (with_reducible first | exact HB.out | apply below_alloc | apply pw_below_drewN | apply below_drew1 | refine below_set ?_ GE164.out) | exact HB.out)) hb)
                  clear HO_8
                  clear HO_165003
                  clear BK164
                  clear HB
                  have HO_8 := n0_
                  have HO_165003 := n1_
                  have HO176 := n2_
                  have BK164 := n3_
                  have HB := n4_
                  clear n0_ n1_ n2_ n3_ n4_
                  clear hb ho32
                  obtain ⟨Ao33, co33, eo33⟩ := Kd.R_slice HO_165003.out
                  (first | subst eo33 | (injection eo33 with f1_ f2_ f3_; have f4_ := f1_.symm; have f5_ := f3_.symm; clear f1_ f2_ f3_; subst f4_; subst f5_))
                  obtain ⟨Ao34, co34, eo34⟩ := Kd.R_slice HO176.out
                  (first | subst eo34 | (injection eo34 with f1_ f2_ f3_; have f4_ := f1_.symm; have f5_ := f3_.symm; clear f1_ f2_ f3_; subst f4_; subst f5_))
                  refine hK.out _ _ ⟨(blk_cell BK164.out 0).trans rfl, (blk_cell BK164.out 1).trans rfl, (blk_cell BK164.out 2).trans rfl, (blk_cell BK164.out 3).trans rfl⟩ (fun hHeld => ?_)
                  clear hK K
                  refine norm_ (a' := ?_) ?_ ?_
                  rotate_left
                  · show Act.put _ (some 58) _ = _
                    simp only [Act.put, List.setIfInBounds_toArray, List.set_cons_zero, List.set_cons_succ, i64_w, i32_w]
                    rfl
                  refine one_ (i := 5) (N := some 60) #[true, true, true, true, true, true, false, false, false, false, false, false, false] rfl rfl (one_of HT_.out (by kernel_rfl)) (by decide) (fun K hK => ?_)
                  refine goes_ Try.func28 (by kernel_rfl) rfl #[.agg #[.int .i64 2, .int .i64 2, .int .i64 1, .slice Ao33 x165003_2.length co33], .slice Ao34 y174.length co34, .int .i64 (wrap64 (1 + t165))] (by rfl) rfl rfl (by (try simp only [List.map_toArray, List.map_cons, List.map_nil]); first | done | rfl | (simp only [List.length_drop, List.length_take]; rfl)) ?_
                  with_reducible refine (plain_Block.calls k2 2 2 1 _ _ x165003_2 _ _ y174 (wrap64 (1 + t165)) t177 t180 t183 _ ?side1 ?side2 ?side3 ?side4 A28.out).mono ?_
                  (case side1 => repeat (first | exact (Kd.R_reads' HO_165003.out).2.2 | (with_reducible refine Kd.C_alloc ?_ _) | (with_reducible refine Kd.C_drewN ?_ _) | (with_reducible refine Kd.C_drew ?_)))
                  (case side2 => exact (Kd.R_reads' HO_165003.out).2.1)
                  (case side3 => repeat (first | exact (Kd.R_reads' HO176.out).2.2 | (with_reducible refine Kd.C_alloc ?_ _) | (with_reducible refine Kd.C_drewN ?_ _) | (with_reducible refine Kd.C_drew ?_)))
                  (case side4 => exact (Kd.R_reads' HO176.out).2.1)
                  rintro e w35 ⟨v178, v181, rfl, ho0, ho1, hb⟩
                  refine ⟨_, rfl, ?_⟩
                  have n0_ := Aside0.mk (Kd.R_below (by (with_reducible repeat (first | apply Kd.R_alloc | apply Kd.R_drewN | apply Kd.R_drew)); exact HO_8.out) hb)
                  have n1_ := Aside0.mk (Kd.R_below (by (with_reducible repeat (first | apply Kd.R_alloc | apply Kd.R_drewN | apply Kd.R_drew)); exact HO_165003.out) hb)
                  have n2_ := Aside0.mk (Kd.R_elder' (by (with_reducible repeat (first | apply Kd.R_alloc | apply Kd.R_drewN | apply Kd.R_drew)); exact HO176.out) (Kd.R_base ho0) hb)
                  have n3_ := Aside0.mk (Kd.R_lower (Kd.R_new' ho0 (Kd.R_lt (by (with_reducible repeat (first | apply Kd.R_alloc | apply Kd.R_drewN | apply Kd.R_drew)); exact HO176.out))) (below_size (by repeat (first | (with_reducible first | exact HB.out | apply below_alloc | apply pw_below_drewN | apply below_drew1 | refine below_set ?_ GE164.out) | exact HB.out))))
                  have n4_ := Aside0.mk (Kd.S_lower (Kd.S_new' ho1 (Kd.R_lt (by (with_reducible repeat (first | apply Kd.R_alloc | apply Kd.R_drewN | apply Kd.R_drew)); exact HO_8.out))) (below_size (by repeat (first | (with_reducible first | exact HB.out | apply below_alloc | apply pw_below_drewN | apply below_drew1 | refine below_set ?_ GE164.out) | exact HB.out))))
                  have n5_ := Aside0.mk (blk_below (g := gb164) (o := .cells #[.int .i64 2, .int .i64 2, .int .i64 1, .slice Ao33 x165003_2.length co33] 26 (0, 0)) (by (with_reducible repeat (first | refine blk_drewN ?_ _ | refine blk_drew ?_ | refine blk_alloc ?_ _)); exact BK164.out) hb)
                  have n6_ := Aside0.mk (below_step (by repeat (first | (with_reducible first | exact HB.out | apply below_alloc | apply pw_below_drewN | apply below_drew1 | refine below_set ?_ GE164.out) | exact HB.out)) hb)
                  clear HO_8
                  clear HO_165003
                  clear HO176
                  clear BK164
                  clear HB
                  have HO_8 := n0_
                  have HO_165003 := n1_
                  have HO176 := n2_
                  have HO179 := n3_
                  have HO182 := n4_
                  have BK164 := n5_
                  have HB := n6_
                  clear n0_ n1_ n2_ n3_ n4_ n5_ n6_
                  (try clear hb)
                  (try clear hb2)
                  (try clear hk)
                  (try clear hi)
                  (try clear ho0)
                  (try clear ho1)
                  refine hK.out _ _ ⟨(blk_cell BK164.out 0).trans rfl, (blk_cell BK164.out 1).trans rfl, (blk_cell BK164.out 2).trans rfl, (blk_cell BK164.out 3).trans rfl⟩ (fun hHeld => ?_)
                  clear hK K
                  refine norm_ (a' := ?_) ?_ ?_
                  rotate_left
                  · show Act.put _ (some 60) _ = _
                    simp only [Act.put, List.setIfInBounds_toArray, List.set_cons_zero, List.set_cons_succ, i64_w, i32_w]
                    rfl
                  refine pure_ (i := 6) (N := some 54) (v := ?_) (a' := ?_) #[true, true, true, true, true, true, true, false, false, false, false, false, false] rfl rfl (any_of HT_.out (by kernel_rfl)) (fun _ _ _ h => h) (Or.inl ⟨by rfl, ?_⟩) ?_ ?_
                  rotate_left
                  · intro w'
                    go_simp
                    with_reducible rfl
                  rotate_left
                  · simp only [Act.put, List.setIfInBounds_toArray, List.set_cons_zero, List.set_cons_succ, i64_w, i32_w]
                    rfl
                  refine pure_ (i := 7) (N := some 61) (v := ?_) (a' := ?_) #[true, true, true, true, true, true, true, true, false, false, false, false, false] rfl rfl (any_of HT_.out (by kernel_rfl)) (fun _ _ _ h => h) (Or.inl ⟨by rfl, ?_⟩) ?_ ?_
                  rotate_left
                  · intro w'
                    go_simp
                    with_reducible rfl
                  rotate_left
                  · simp only [Act.put, List.setIfInBounds_toArray, List.set_cons_zero, List.set_cons_succ, i64_w, i32_w]
                    rfl
                  refine pure_ (i := 8) (N := some 62) (v := ?_) (a' := ?_) #[true, true, true, true, true, true, true, true, true, false, false, false, false] rfl rfl (any_of HT_.out (by kernel_rfl)) (fun _ _ _ h => h) (Or.inl ⟨by rfl, ?_⟩) ?_ ?_
                  rotate_left
                  · intro w'
                    go_simp
                    with_reducible rfl
                  rotate_left
                  · simp only [Act.put, List.setIfInBounds_toArray, List.set_cons_zero, List.set_cons_succ, i64_w, i32_w]
                    rfl
                  refine pure_ (i := 9) (N := some 63) (v := ?_) (a' := ?_) #[true, true, true, true, true, true, true, true, true, true, false, false, false] rfl rfl (any_of HT_.out (by kernel_rfl)) (fun _ _ _ h => h) (Or.inl ⟨by rfl, ?_⟩) ?_ ?_
                  rotate_left
                  · intro w'
                    go_simp
                    with_reducible rfl
                  rotate_left
                  · simp only [Act.put, List.setIfInBounds_toArray, List.set_cons_zero, List.set_cons_succ, i64_w, i32_w]
                    rfl
                  refine pure_ (i := 10) (N := some 11) (v := ?_) (a' := ?_) #[true, true, true, true, true, true, true, true, true, true, true, false, false] rfl rfl (any_of HT_.out (by kernel_rfl)) (fun _ _ _ h => h) (Or.inl ⟨by rfl, ?_⟩) ?_ ?_
                  rotate_left
                  · intro w'
                    go_simp
                    with_reducible rfl
                  rotate_left
                  · simp only [Act.put, List.setIfInBounds_toArray, List.set_cons_zero, List.set_cons_succ, i64_w, i32_w]
                    rfl
                  refine pure_ (i := 11) (N := some 12) (v := ?_) (a' := ?_) #[true, true, true, true, true, true, true, true, true, true, true, true, false] rfl rfl (any_of HT_.out (by kernel_rfl)) (fun _ _ _ h => h) (Or.inl ⟨by rfl, ?_⟩) ?_ ?_
                  rotate_left
                  · intro w'
                    go_simp
                    with_reducible rfl
                  rotate_left
                  · simp only [Act.put, List.setIfInBounds_toArray, List.set_cons_zero, List.set_cons_succ, i64_w, i32_w]
                    rfl
                  refine pure_ (i := 12) (N := some 13) (v := ?_) (a' := ?_) #[true, true, true, true, true, true, true, true, true, true, true, true, true] rfl rfl (any_of HT_.out (by kernel_rfl)) (fun _ _ _ h => h) (Or.inl ⟨by rfl, ?_⟩) ?_ ?_
                  rotate_left
                  · intro w'
                    go_simp
                    with_reducible rfl
                  rotate_left
                  · simp only [Act.put, List.setIfInBounds_toArray, List.set_cons_zero, List.set_cons_succ, i64_w, i32_w]
                    rfl
                  refine done_ (done_of HT_.out (by kernel_rfl)) ?_
                  go_upto_region 15 with (fail)
                  go_cut [72] (fun v72 wc => ∃ (kq : Nat) (x72_28 : Bool), v72 = .bool x72_28 ∧ Aside0 (racewaylaw8_PlainSingle.j2 kq x8_2 t177 t180 x72_28 2 2 1 x165003_2 = some r) ∧ Aside0 (kq ≤ k2) ∧ Aside0 (Kd.R (Kd.int .i64) 3 wc w.heap.size (fun _ => True) u8 x8_2) ∧ Aside0 (Kd.R (Kd.int .i64) 2 wc w.heap.size (fun _ => True) v178 t177) ∧ Aside0 (Kd.S k61 61 wc w.heap.size (fun k_ => some k_ ≠ (u8 : Value).ownBlock) v181 t180) ∧ Aside0 (Kd.R k30 30 wc w.heap.size (fun _ => True) (.slice Ao33 x165003_2.length co33) x165003_2) ∧ Aside0 (wc.heap[gb164]? = some (.cells #[.int .i64 2, .int .i64 2, .int .i64 1, (.slice Ao33 x165003_2.length co33)] 26 (0, 0))) ∧ Aside0 (Below w.heap.size w wc))
                  case first =>
                    have H := HC29.out
                    clear HC29
                    by_cases c36 : t183 = 0
                    · rw [if_pos c36] at H
                      have c36b0 : (t183 == 0) = true := beq_iff_eq.mpr c36
                      have c36b1 : (t183 != 0) = false := bne_eq_false_iff_eq.mpr c36
                      clear c36
                      (first | rw [c36b0] | (simp only [i64_w, i32_w]; rw [c36b0]) | skip)
                      as_aux_lemma =>
                        have H' := Aside0.mk H
                        clear H
                        obtain ⟨Ao37, co37, eo37⟩ := Kd.S_slice HO182.out
                        subst eo37
                        obtain ⟨Ao38, co38, eo38⟩ := Kd.R_slice HO_8.out
                        subst eo38
                        go_wp2
                        go_meet
                        case rel => exact ⟨_, (((t180.length : Int) != (x8_2.length : Int))), (by first | rfl | (simp; done) | (simp [*]; done)), H', ⟨by have := HJ3.out; have := HK2.out; first | omega | exact Nat.le_refl _⟩, ⟨by (with_reducible repeat (first | apply Kd.R_alloc | apply Kd.R_drewN | apply Kd.R_drew)); exact HO_8.out⟩, ⟨by (with_reducible repeat (first | apply Kd.R_alloc | apply Kd.R_drewN | apply Kd.R_drew)); exact Kd.R_mono HO179.out (fun _ hk => trivial)⟩, ⟨by (with_reducible repeat (first | apply Kd.S_alloc | apply Kd.S_drewN | apply Kd.S_drew)); exact Kd.S_mono HO182.out (fun _ hk => hk.2)⟩, ⟨by (with_reducible repeat (first | apply Kd.R_alloc | apply Kd.R_drewN | apply Kd.R_drew)); exact HO_165003.out⟩, ⟨by (with_reducible repeat (first | refine blk_drewN ?_ _ | refine blk_drew ?_ | refine blk_alloc ?_ _)); exact BK164.out⟩, ⟨by repeat (first | (with_reducible first | exact HB.out | apply below_alloc | apply pw_below_drewN | apply below_drew1 | refine below_set ?_ GE164.out) | exact HB.out)⟩⟩
                    · rw [if_neg c36] at H
                      have c36b0 : (t183 == 0) = false := beq_eq_false_iff_ne.mpr c36
                      have c36b1 : (t183 != 0) = true := bne_iff_ne.mpr c36
                      (first | rw [c36b0] | (simp only [i64_w, i32_w]; rw [c36b0]) | skip)
                      as_aux_lemma =>
                        have H' := Aside0.mk H
                        clear H
                        go_wp2
                        go_meet
                        case rel => exact ⟨_, (true), (by first | rfl | (simp; done) | (simp [*]; done)), H', ⟨by have := HJ3.out; have := HK2.out; first | omega | exact Nat.le_refl _⟩, ⟨by (with_reducible repeat (first | apply Kd.R_alloc | apply Kd.R_drewN | apply Kd.R_drew)); exact HO_8.out⟩, ⟨by (with_reducible repeat (first | apply Kd.R_alloc | apply Kd.R_drewN | apply Kd.R_drew)); exact Kd.R_mono HO179.out (fun _ hk => trivial)⟩, ⟨by (with_reducible repeat (first | apply Kd.S_alloc | apply Kd.S_drewN | apply Kd.S_drew)); exact Kd.S_mono HO182.out (fun _ hk => hk.2)⟩, ⟨by (with_reducible repeat (first | apply Kd.R_alloc | apply Kd.R_drewN | apply Kd.R_drew)); exact HO_165003.out⟩, ⟨by (with_reducible repeat (first | refine blk_drewN ?_ _ | refine blk_drew ?_ | refine blk_alloc ?_ _)); exact BK164.out⟩, ⟨by repeat (first | (with_reducible first | exact HB.out | apply below_alloc | apply pw_below_drewN | apply below_drew1 | refine below_set ?_ GE164.out) | exact HB.out)⟩⟩
                  case rest =>
                    clear HC29
                    try clear c1
                    try clear p1
                    try clear q1
                    try clear hx1
                    try clear c2
                    try clear p2
                    try clear c3
                    try clear c6
                    try clear p6
                    try clear c7
                    try clear c9
                    try clear c11
                    try clear c11b0
                    try clear c12
                    try clear c12b0
                    try clear c14
                    try clear c15
                    try clear c15b0
                    try clear c16
                    try clear p16
                    try clear q16
                    try clear hx16
                    try clear c24
                    try clear c26
                    try clear c26b0
                    try clear c26b1
                    try clear c27
                    try clear c27b0
                    try clear c27b1
                    try clear c28
                    try clear c36
                    try clear c36b0
                    try clear c36b1
                    try clear hcz10_0
                    try clear hcz10_1
                    try clear hcz10_2
                    try clear hcz10_3
                    try clear hcz17_0
                    try clear hcz17_1
                    try clear hcz17_2
                    try clear hcz17_3
                    try clear hcz20_0
                    try clear hcz20_1
                    try clear hcz20_2
                    try clear hcz20_3
                    try clear hcz22_0
                    try clear hcz22_1
                    try clear hcz22_2
                    try clear hcz22_3
                    try clear hcz25_0
                    try clear hcz25_1
                    try clear hcz25_2
                    try clear hcz25_3
                    try clear hfz10_0
                    try clear hfz10_1
                    try clear hfz10_2
                    try clear hfz10_3
                    try clear hfz17_0
                    try clear hfz17_1
                    try clear hfz17_2
                    try clear hfz17_3
                    try clear hfz20_0
                    try clear hfz20_1
                    try clear hfz20_2
                    try clear hfz20_3
                    try clear hfz22_0
                    try clear hfz22_1
                    try clear hfz22_2
                    try clear hfz22_3
                    try clear hfz25_0
                    try clear hfz25_1
                    try clear hfz25_2
                    try clear hfz25_3
                    try clear hx166_0
                    try clear p166
                    try clear p2
                    try clear p6
                    try clear q166
                    obtain ⟨kq, x72_28, rfl, HA, HJ28, HO_8, HO_11, HO_12, HO_165003, BK164, HB⟩ := hcut
                    cases kq with
                    | zero => exact absurd HA.out (by simp [racewaylaw8_PlainSingle.j2])
                    | succ kj28 =>
                      have H := HA.out
                      clear HA
                      simp only [racewaylaw8_PlainSingle.j2] at H
                      by_cases c39 : x72_28 = true
                      · subst c39
                        have H1 : (some false) = some r := by rw [if_pos rfl] at H; exact H
                        clear H
                        have H := H1
                        clear H1
                        exact absurd ((Option.some.inj H).trans hrT_.out) (by simp)
                      · replace c39 := Bool.eq_false_iff.mpr c39
                        subst c39
                        have H1 : (racewaylaw8_PlainSingle.l1 kj28 x8_2 t177 t180 0 2 2 1 x165003_2) = some r := by rw [if_neg (show ¬ (false = true) by decide)] at H; exact H
                        clear H
                        have H := H1
                        clear H1
                        have H' := Aside0.mk H
                        clear H
                        go_wp2
                        go_loopg [14] kj28 (fun kq v14 w' => ∃ (x14_4 : Int), v14 = .int .i64 x14_4 ∧ Aside0 (racewaylaw8_PlainSingle.l1 kq x8_2 t177 t180 x14_4 2 2 1 x165003_2 = some r) ∧ Aside0 (kq ≤ kj28) ∧ Aside0 (Kd.R (Kd.int .i64) 3 w' w.heap.size (fun _ => True) u8 x8_2) ∧ Aside0 (Kd.R (Kd.int .i64) 2 w' w.heap.size (fun _ => True) v178 t177) ∧ Aside0 (Kd.S k61 61 w' w.heap.size (fun k_ => some k_ ≠ (u8 : Value).ownBlock) v181 t180) ∧ Aside0 (Kd.R k30 30 w' w.heap.size (fun _ => True) (.slice Ao33 x165003_2.length co33) x165003_2) ∧ Aside0 (w'.heap[gb164]? = some (.cells #[.int .i64 2, .int .i64 2, .int .i64 1, (.slice Ao33 x165003_2.length co33)] 26 (0, 0))) ∧ Aside0 (Below w.heap.size w w'))
                        case atStart => exact ⟨(0), (by first | rfl | (simp; done) | (simp [*]; done)), H', ⟨Nat.le_refl _⟩, ⟨by (with_reducible repeat (first | apply Kd.R_alloc | apply Kd.R_drewN | apply Kd.R_drew)); exact HO_8.out⟩, ⟨by (with_reducible repeat (first | apply Kd.R_alloc | apply Kd.R_drewN | apply Kd.R_drew)); exact HO_11.out⟩, ⟨by (with_reducible repeat (first | apply Kd.S_alloc | apply Kd.S_drewN | apply Kd.S_drew)); exact HO_12.out⟩, ⟨by (with_reducible repeat (first | apply Kd.R_alloc | apply Kd.R_drewN | apply Kd.R_drew)); exact HO_165003.out⟩, ⟨by (with_reducible repeat (first | refine blk_drewN ?_ _ | refine blk_drew ?_ | refine blk_alloc ?_ _)); exact BK164.out⟩, ⟨by repeat (first | (with_reducible first | exact HB.out | apply below_alloc | apply pw_below_drewN | apply below_drew1 | refine below_set ?_ GE164.out) | exact HB.out)⟩⟩
                        case round =>
                          clear H'
                          try clear c1
                          try clear p1
                          try clear q1
                          try clear hx1
                          try clear c2
                          try clear p2
                          try clear c3
                          try clear c6
                          try clear p6
                          try clear c7
                          try clear c9
                          try clear c11
                          try clear c11b0
                          try clear c12
                          try clear c12b0
                          try clear c14
                          try clear c15
                          try clear c15b0
                          try clear c16
                          try clear p16
                          try clear q16
                          try clear hx16
                          try clear c24
                          try clear c26
                          try clear c26b0
                          try clear c26b1
                          try clear c27
                          try clear c27b0
                          try clear c27b1
                          try clear c28
                          try clear c36
                          try clear c36b0
                          try clear c36b1
                          try clear c39
                          try clear hcz10_0
                          try clear hcz10_1
                          try clear hcz10_2
                          try clear hcz10_3
                          try clear hcz17_0
                          try clear hcz17_1
                          try clear hcz17_2
                          try clear hcz17_3
                          try clear hcz20_0
                          try clear hcz20_1
                          try clear hcz20_2
                          try clear hcz20_3
                          try clear hcz22_0
                          try clear hcz22_1
                          try clear hcz22_2
                          try clear hcz22_3
                          try clear hcz25_0
                          try clear hcz25_1
                          try clear hcz25_2
                          try clear hcz25_3
                          try clear hfz10_0
                          try clear hfz10_1
                          try clear hfz10_2
                          try clear hfz10_3
                          try clear hfz17_0
                          try clear hfz17_1
                          try clear hfz17_2
                          try clear hfz17_3
                          try clear hfz20_0
                          try clear hfz20_1
                          try clear hfz20_2
                          try clear hfz20_3
                          try clear hfz22_0
                          try clear hfz22_1
                          try clear hfz22_2
                          try clear hfz22_3
                          try clear hfz25_0
                          try clear hfz25_1
                          try clear hfz25_2
                          try clear hfz25_3
                          try clear hx166_0
                          try clear p1
                          try clear p16
                          try clear p166
                          try clear p2
                          try clear p6
                          try clear q1
                          try clear q16
                          try clear q166
                          obtain ⟨x14_4, rfl, HA, HK4, HO_8, HO_11, HO_12, HO_165003, BK164, HB⟩ := hrel
                          cases gk with
                          | zero => exact absurd HA.out (by simp [racewaylaw8_PlainSingle.l1])
                          | succ k4 =>
                            have H := HA.out
                            clear HA
                            simp only [racewaylaw8_PlainSingle.l1] at H
                            by_cases c40 : x14_4 < (t180.length : Int)
                            · rw [if_pos c40] at H
                              have c40b0 : decide (x14_4 < (t180.length : Int)) = true := decide_eq_true c40
                              clear c40
                              by_cases c41 : 0 ≤ x14_4
                              · rw [if_pos c41] at H
                                have c41b0 : decide (0 ≤ x14_4) = true := decide_eq_true c41
                                clear c41
                                have c42b0 := eq_true (of_decide_eq_true (by first | (with_reducible assumption) | assumption) : 0 ≤ x14_4)
                                by_cases c43 : x14_4 ≤ (wrap64 (x14_4 + 1))
                                · rw [if_pos c43] at H
                                  have c43b0 := eq_true c43
                                  have c43b1 : decide (x14_4 ≤ (wrap64 (x14_4 + 1))) = true := decide_eq_true c43
                                  by_cases c44 : (wrap64 (x14_4 + 1)) ≤ (x8_2.length : Int)
                                  · rw [if_pos c44] at H
                                    have c44b0 := eq_true c44
                                    have c44b1 : decide ((wrap64 (x14_4 + 1)) ≤ (x8_2.length : Int)) = true := decide_eq_true c44
                                    obtain ⟨y185, hy185⟩ : ∃ y_ : List Int, y_ = ((x8_2.take ((wrap64 (x14_4 + 1)) : Int).toNat).drop (x14_4 : Int).toNat) := ⟨_, rfl⟩
                                    replace H : ((racewaylaw8_same.f k4 ((rd_T61 t180 x14_4).f0) y185).bind fun t189 => (if t189 = true then (if x14_4 < (x8_2.length : Int) then (if 0 ≤ (wrap64 (Int.tdiv (rd x8_2 x14_4) 2)) then (if (wrap64 (Int.tdiv (rd x8_2 x14_4) 2)) < (x165003_2.length : Int) then (if ((rd_T61 t180 x14_4).f1) = ((rd_T30 x165003_2 (wrap64 (Int.tdiv (rd x8_2 x14_4) 2))).f2) then (if (wrap64 (Int.tdiv (rd x8_2 x14_4) 2)) < (t177.length : Int) then (if (rd t177 (wrap64 (Int.tdiv (rd x8_2 x14_4) 2))) = ((rd_T61 t180 x14_4).f1) then (racewaylaw8_PlainSingle.l1 k4 x8_2 t177 t180 (wrap64 (x14_4 + 1)) 2 2 1 x165003_2) else (some false)) else (none)) else (some false)) else (none)) else (none)) else (none)) else (some false))) = some r := by first | (rw [hy185]; with_reducible exact H) | (have H2_ := (Option.bind_some _ _).symm.trans H; rw [hy185]; with_reducible exact H2_) | (have H2_ := (Option.bind_some _ _).symm.trans H; with_reducible exact H2_) | with_reducible exact H | (rw [hy185]; exact H) | exact H
                                    have Ny185 := Aside0.mk hy185
                                    clear hy185
                                    replace H := Option.bind_eq_some_iff.mp H
                                    obtain ⟨t189, A450, H⟩ := H
                                    replace H : (if t189 = true then (if x14_4 < (x8_2.length : Int) then (if 0 ≤ (wrap64 (Int.tdiv (rd x8_2 x14_4) 2)) then (if (wrap64 (Int.tdiv (rd x8_2 x14_4) 2)) < (x165003_2.length : Int) then (if ((rd_T61 t180 x14_4).f1) = ((rd_T30 x165003_2 (wrap64 (Int.tdiv (rd x8_2 x14_4) 2))).f2) then (if (wrap64 (Int.tdiv (rd x8_2 x14_4) 2)) < (t177.length : Int) then (if (rd t177 (wrap64 (Int.tdiv (rd x8_2 x14_4) 2))) = ((rd_T61 t180 x14_4).f1) then (racewaylaw8_PlainSingle.l1 k4 x8_2 t177 t180 (wrap64 (x14_4 + 1)) 2 2 1 x165003_2) else (some false)) else (none)) else (some false)) else (none)) else (none)) else (none)) else (some false)) = some r := H
                                    have A45 := Aside0.mk A450
                                    clear A450
                                    by_cases c46 : t189 = true
                                    · subst c46
                                      have H1 : (if x14_4 < (x8_2.length : Int) then (if 0 ≤ (wrap64 (Int.tdiv (rd x8_2 x14_4) 2)) then (if (wrap64 (Int.tdiv (rd x8_2 x14_4) 2)) < (x165003_2.length : Int) then (if ((rd_T61 t180 x14_4).f1) = ((rd_T30 x165003_2 (wrap64 (Int.tdiv (rd x8_2 x14_4) 2))).f2) then (if (wrap64 (Int.tdiv (rd x8_2 x14_4) 2)) < (t177.length : Int) then (if (rd t177 (wrap64 (Int.tdiv (rd x8_2 x14_4) 2))) = ((rd_T61 t180 x14_4).f1) then (racewaylaw8_PlainSingle.l1 k4 x8_2 t177 t180 (wrap64 (x14_4 + 1)) 2 2 1 x165003_2) else (some false)) else (none)) else (some false)) else (none)) else (none)) else (none)) = some r := by rw [if_pos rfl] at H; exact H
                                      clear H
                                      have H := H1
                                      clear H1
                                      by_cases c47 : x14_4 < (x8_2.length : Int)
                                      · rw [if_pos c47] at H
                                        have c47b0 : decide (x14_4 < (x8_2.length : Int)) = true := decide_eq_true c47
                                        clear c47
                                        obtain ⟨ji48, hji48⟩ : ∃ j_ : Int, (wrap64 (Int.tdiv (rd x8_2 x14_4) 2)) = j_ := ⟨_, rfl⟩
                                        replace H : (if 0 ≤ (ji48) then (if (ji48) < (x165003_2.length : Int) then (if ((rd_T61 t180 x14_4).f1) = ((rd_T30 x165003_2 (ji48)).f2) then (if (ji48) < (t177.length : Int) then (if (rd t177 (ji48)) = ((rd_T61 t180 x14_4).f1) then (racewaylaw8_PlainSingle.l1 k4 x8_2 t177 t180 (wrap64 (x14_4 + 1)) 2 2 1 x165003_2) else (some false)) else (none)) else (some false)) else (none)) else (none)) = some r := by first | (rw [hji48] at H; exact H) | (simp only [hji48] at H ⊢; exact H)
                                        (try rw [hji48] at A45)
                                        have hji48w : (IntKind.i64.wrap (Int.tdiv (rd x8_2 x14_4) 2)) = ji48 := (i64_w _).trans hji48
                                        by_cases c49 : 0 ≤ (ji48)
                                        · rw [if_pos c49] at H
                                          have c49b0 : decide (0 ≤ (ji48)) = true := decide_eq_true c49
                                          clear c49
                                          by_cases c50 : (ji48) < (x165003_2.length : Int)
                                          · rw [if_pos c50] at H
                                            have c50b0 : decide ((ji48) < (x165003_2.length : Int)) = true := decide_eq_true c50
                                            clear c50
                                            by_cases c51 : ((rd_T61 t180 x14_4).f1) = ((rd_T30 x165003_2 (ji48)).f2)
                                            · rw [if_pos c51] at H
                                              have c51b0 : (((rd_T61 t180 x14_4).f1) == ((rd_T30 x165003_2 (ji48)).f2)) = true := beq_iff_eq.mpr c51
                                              have c51b1 : (((rd_T61 t180 x14_4).f1) != ((rd_T30 x165003_2 (ji48)).f2)) = false := bne_eq_false_iff_eq.mpr c51
                                              clear c51
                                              by_cases c52 : (ji48) < (t177.length : Int)
                                              · rw [if_pos c52] at H
                                                have c52b0 : decide ((ji48) < (t177.length : Int)) = true := decide_eq_true c52
                                                clear c52
                                                by_cases c53 : (rd t177 (ji48)) = ((rd_T61 t180 x14_4).f1)
                                                · rw [if_pos c53] at H
                                                  have c53b0 : ((rd t177 (ji48)) == ((rd_T61 t180 x14_4).f1)) = true := beq_iff_eq.mpr c53
                                                  have c53b1 : ((rd t177 (ji48)) != ((rd_T61 t180 x14_4).f1)) = false := bne_eq_false_iff_eq.mpr c53
                                                  clear c53
                                                  as_aux_lemma =>
                                                    have H' := Aside0.mk H
                                                    clear H
                                                    obtain ⟨Ao54, co54, eo54⟩ := Kd.S_slice HO_12.out
                                                    subst eo54
                                                    try go_wp2
                                                    have n0_ := Aside0.mk (Kd.R_drew HO_8.out)
                                                    have n1_ := Aside0.mk (Kd.R_drew HO_11.out)
                                                    have n2_ := Aside0.mk (Kd.S_drew HO_12.out)
                                                    have n3_ := Aside0.mk (Kd.R_drew HO_165003.out)
                                                    have n4_ := Aside0.mk (blk_drew BK164.out)
                                                    have n5_ := Aside0.mk (below_drew1 HB.out)
                                                    clear HO_8
                                                    clear HO_11
                                                    clear HO_12
                                                    clear HO_165003
                                                    clear BK164
                                                    clear HB
                                                    have HO_8 := n0_
                                                    have HO_11 := n1_
                                                    have HO_12 := n2_
                                                    have HO_165003 := n3_
                                                    have BK164 := n4_
                                                    have HB := n5_
                                                    clear n0_ n1_ n2_ n3_ n4_ n5_
                                                    have p184 : 0 ≤ (x14_4 : Int) := of_decide_eq_true (by first | (with_reducible assumption) | assumption)
                                                    have q184 : x14_4 < (t180.length : Int) := of_decide_eq_true (by first | (with_reducible assumption) | assumption)
                                                    obtain ⟨ad184, A184_0, c184_0, e184, hx184_0, hx184_1, hl184_0, hi184_0⟩ := at_T61 (Kd.S_reads' HO_12.out).2.2 x14_4 p184 q184
                                                    cases e184
                                                    obtain ⟨ce184, hce184, hMe184, hcc184⟩ := Kd.S_get HO_12.out z61 x14_4 p184 (by first | exact q184 | exact of_decide_eq_true (by first | (with_reducible assumption) | assumption) | (have e_ := (Kd.S_reads' HO_12.out).1; omega))
                                                    obtain ⟨ve184_0, rfl, ge184_0⟩ := k61_openM hMe184
                                                    have hv184_0 := hcc184 0 _ rfl
                                                    rw [Nat.add_zero] at hv184_0
                                                    replace hv184_0 := Option.some.inj (hv184_0.symm.trans hx184_0)
                                                    rw [hv184_0] at ge184_0
                                                    have HL184_0 := Aside0.mk (show Kd.R (Kd.int .i64) 3 _ _ _ _ ((rd_T61 t180 x14_4).f0) from ge184_0)
                                                    clear hv184_0 ge184_0
                                                    clear hcc184 hce184
                                                    have HR184_0 := Aside0.mk hi184_0
                                                    have HC184_0 := Aside0.mk hl184_0
                                                    clear hi184_0 hl184_0
                                                    replace p184 := eq_true p184
                                                    replace q184 := eq_true q184
                                                    obtain ⟨Ao57, co57, eo57⟩ := Kd.R_slice HO_8.out
                                                    (first | subst eo57 | (injection eo57 with f1_ f2_ f3_; have f4_ := f1_.symm; have f5_ := f3_.symm; clear f1_ f2_ f3_; subst f4_; subst f5_))
                                                    have q56 : ((wrap64 (x14_4 + 1)) : Int) ≤ ((x8_2.length : Int) : Int) := of_decide_eq_true (by first | (with_reducible assumption) | assumption)
                                                    obtain ⟨i056, hi056, _, hsz56, _⟩ := info_parts info3
                                                    have hroom56 : x8_2.length ≤ co57 := (Kd.R_reads' HO_8.out).2.1
                                                    have hC56 : Kd.C (Kd.int .i64) _ Ao57 x8_2.length x8_2 := (Kd.R_reads' HO_8.out).2.2
                                                    have ql56 : (x14_4 : Int) ≤ ((wrap64 (x14_4 + 1)) : Int) := of_decide_eq_true (by first | (with_reducible assumption) | assumption)
                                                    have q056 : (0 : Int) ≤ (x14_4 : Int) := of_decide_eq_true (by first | (with_reducible assumption) | assumption)
                                                    have hcut56 := cut_mid (P := Try.prog) 22 3 .i64 .i64 Try.underlying22 hi056 1 hsz56 Ao57 x8_2.length co57 x14_4 (wrap64 (x14_4 + 1)) q056 ql56 q56 hroom56
                                                    have hr56 := Kd.C_mid (lo := (x14_4 : Int).toNat) (hi := ((wrap64 (x14_4 + 1)) : Int).toNat) (c := co57) hC56 (by omega) (by omega) hroom56
                                                    obtain ⟨A56, hA56⟩ : ∃ A1, A1 = (if co57 = (x14_4 : Int).toNat then Ao57 else (Ao57 : Option Addr).map (·.add ((x14_4 : Int).toNat * 1))) := ⟨_, rfl⟩
                                                    obtain ⟨c56, hc56⟩ : ∃ c1, c1 = co57 - (x14_4 : Int).toNat := ⟨_, rfl⟩
                                                    have hy56 : y185.length = ((wrap64 (x14_4 + 1)) : Int).toNat - (x14_4 : Int).toNat := (by rw [Ny185.out, List.length_drop, List.length_take] <;> omega)
                                                    rw [show ((x8_2).take ((wrap64 (x14_4 + 1)) : Int).toNat).drop (x14_4 : Int).toNat = y185 from Ny185.out.symm] at hr56
                                                    replace hr56 : Kd.C (Kd.int .i64) _ A56 y185.length y185 := (by rw [hA56]; exact hr56)
                                                    rw [← hy56, ← hA56, ← hc56] at hcut56
                                                    have HR188 := Aside0.mk hr56
                                                    have HC188 := Aside0.mk (show y185.length ≤ c56 from by rw [hy56, hc56]; exact Nat.sub_le_sub_right (Nat.le_trans (by omega) hroom56) _)
                                                    clear hr56 hC56 hroom56 hi056 hsz56 hc56
                                                    have KY56 := Aside0.mk hy56
                                                    have KA56 := Aside0.mk hA56
                                                    clear hy56 hA56
                                                    have KL56 := Aside0.mk (show ((wrap64 (x14_4 + 1)) : Int).toNat ≤ x8_2.length from by omega)
                                                    have KM56 := Aside0.mk (show (x14_4 : Int).toNat ≤ ((wrap64 (x14_4 + 1)) : Int).toNat from by omega)
                                                    replace q56 := eq_true q56
                                                    have p190 : 0 ≤ (x14_4 : Int) := of_decide_eq_true (by first | (with_reducible assumption) | assumption)
                                                    have q190 : x14_4 < (t180.length : Int) := of_decide_eq_true (by first | (with_reducible assumption) | assumption)
                                                    obtain ⟨ad190, A190_0, c190_0, e190, hx190_0, hx190_1, hl190_0, hi190_0⟩ := at_T61 (Kd.S_reads' HO_12.out).2.2 x14_4 p190 q190
                                                    obtain rfl : ad184 = ad190 := (by injection e190)
                                                    obtain ⟨ce190, hce190, hMe190, hcc190⟩ := Kd.S_get HO_12.out z61 x14_4 p190 (by first | exact q190 | exact of_decide_eq_true (by first | (with_reducible assumption) | assumption) | (have e_ := (Kd.S_reads' HO_12.out).1; omega))
                                                    obtain ⟨ve190_0, rfl, ge190_0⟩ := k61_openM hMe190
                                                    have hv190_0 := hcc190 0 _ rfl
                                                    rw [Nat.add_zero] at hv190_0
                                                    replace hv190_0 := Option.some.inj (hv190_0.symm.trans hx190_0)
                                                    rw [hv190_0] at ge190_0
                                                    have HL190_0 := Aside0.mk (show Kd.R (Kd.int .i64) 3 _ _ _ _ ((rd_T61 t180 x14_4).f0) from ge190_0)
                                                    clear hv190_0 ge190_0
                                                    clear hcc190 hce190
                                                    have HR190_0 := Aside0.mk hi190_0
                                                    have HC190_0 := Aside0.mk hl190_0
                                                    clear hi190_0 hl190_0
                                                    replace p190 := eq_true p190
                                                    replace q190 := eq_true q190
                                                    have ea_ := Option.some.inj (hx184_0.symm.trans hx190_0)
                                                    injection ea_ with ea_ en_ ec_
                                                    subst ea_
                                                    subst ec_
                                                    clear en_
                                                    have p191 : 0 ≤ (x14_4 : Int) := of_decide_eq_true (by first | (with_reducible assumption) | assumption)
                                                    have q191 : x14_4 < (x8_2.length : Int) := of_decide_eq_true (by first | (with_reducible assumption) | assumption)
                                                    obtain ⟨ad191, e191, hx191_0⟩ := Kd.at_int (Kd.R_reads' HO_8.out).2.2 x14_4 p191 q191
                                                    cases e191
                                                    replace p191 := eq_true p191
                                                    replace q191 := eq_true q191
                                                    have p192 : 0 ≤ ((ji48) : Int) := of_decide_eq_true (by first | (with_reducible assumption) | assumption)
                                                    have q192 : (ji48) < (x165003_2.length : Int) := of_decide_eq_true (by first | (with_reducible assumption) | assumption)
                                                    obtain ⟨ad192, e192, hx192_0, hx192_1, hx192_2⟩ := at_T30 (Kd.R_reads' HO_165003.out).2.2 (ji48) p192 q192
                                                    cases e192
                                                    replace p192 := eq_true p192
                                                    replace q192 := eq_true q192
                                                    have p193 : 0 ≤ (x14_4 : Int) := of_decide_eq_true (by first | (with_reducible assumption) | assumption)
                                                    have q193 : x14_4 < (x8_2.length : Int) := of_decide_eq_true (by first | (with_reducible assumption) | assumption)
                                                    obtain ⟨ad193, e193, hx193_0⟩ := Kd.at_int (Kd.R_reads' HO_8.out).2.2 x14_4 p193 q193
                                                    obtain rfl : ad191 = ad193 := (by injection e193)
                                                    replace p193 := eq_true p193
                                                    replace q193 := eq_true q193
                                                    have p194 : 0 ≤ ((ji48) : Int) := of_decide_eq_true (by first | (with_reducible assumption) | assumption)
                                                    have q194 : (ji48) < (t177.length : Int) := of_decide_eq_true (by first | (with_reducible assumption) | assumption)
                                                    (first | (obtain ⟨Aoz, coz, eoz⟩ := Kd.R_slice HO_11.out; subst eoz) | skip)
                                                    obtain ⟨ad194, e194, hx194_0⟩ := Kd.at_int (Kd.R_reads' HO_11.out).2.2 (ji48) p194 q194
                                                    cases e194
                                                    replace p194 := eq_true p194
                                                    replace q194 := eq_true q194
                                                    have p195 : 0 ≤ (x14_4 : Int) := of_decide_eq_true (by first | (with_reducible assumption) | assumption)
                                                    have q195 : x14_4 < (t180.length : Int) := of_decide_eq_true (by first | (with_reducible assumption) | assumption)
                                                    obtain ⟨ad195, A195_0, c195_0, e195, hx195_0, hx195_1, hl195_0, hi195_0⟩ := at_T61 (Kd.S_reads' HO_12.out).2.2 x14_4 p195 q195
                                                    obtain rfl : ad184 = ad195 := (by injection e195)
                                                    obtain ⟨ce195, hce195, hMe195, hcc195⟩ := Kd.S_get HO_12.out z61 x14_4 p195 (by first | exact q195 | exact of_decide_eq_true (by first | (with_reducible assumption) | assumption) | (have e_ := (Kd.S_reads' HO_12.out).1; omega))
                                                    obtain ⟨ve195_0, rfl, ge195_0⟩ := k61_openM hMe195
                                                    have hv195_0 := hcc195 0 _ rfl
                                                    rw [Nat.add_zero] at hv195_0
                                                    replace hv195_0 := Option.some.inj (hv195_0.symm.trans hx195_0)
                                                    rw [hv195_0] at ge195_0
                                                    have HL195_0 := Aside0.mk (show Kd.R (Kd.int .i64) 3 _ _ _ _ ((rd_T61 t180 x14_4).f0) from ge195_0)
                                                    clear hv195_0 ge195_0
                                                    clear hcc195 hce195
                                                    have HR195_0 := Aside0.mk hi195_0
                                                    have HC195_0 := Aside0.mk hl195_0
                                                    clear hi195_0 hl195_0
                                                    replace p195 := eq_true p195
                                                    replace q195 := eq_true q195
                                                    have ea_ := Option.some.inj (hx184_0.symm.trans hx195_0)
                                                    injection ea_ with ea_ en_ ec_
                                                    subst ea_
                                                    subst ec_
                                                    clear en_
                                                    refine start_ (n := 46) (S := fun w' => w'.cell? ⟨gb164, 0, none⟩ = some (.int .i64 2) ∧ w'.cell? ⟨gb164, 1, none⟩ = some (.int .i64 2) ∧ w'.cell? ⟨gb164, 2, none⟩ = some (.int .i64 1) ∧ w'.cell? ⟨gb164, 3, none⟩ = some (.slice (some ad192) x165003_2.length co33) ∧ w'.cell? (ad184.add ((x14_4).toNat * 2)) = some (.slice A184_0 ((rd_T61 t180 x14_4).f0).length c184_0) ∧ w'.cell? ⟨(ad184.add ((x14_4).toNat * 2)).block, (ad184.add ((x14_4).toNat * 2)).off + 1, none⟩ = some (.int .i64 ((rd_T61 t180 x14_4).f1)) ∧ w'.cell? (ad184.add ((x14_4).toNat * 2)) = some (.slice A184_0 ((rd_T61 t180 x14_4).f0).length c184_0) ∧ w'.cell? ⟨(ad184.add ((x14_4).toNat * 2)).block, (ad184.add ((x14_4).toNat * 2)).off + 1, none⟩ = some (.int .i64 ((rd_T61 t180 x14_4).f1)) ∧ w'.cell? (ad191.add (x14_4).toNat) = some (.int .i64 (rd x8_2 x14_4)) ∧ w'.cell? (ad192.add (((ji48)).toNat * 3)) = some (.int .i64 ((rd_T30 x165003_2 (ji48)).f0)) ∧ w'.cell? ⟨(ad192.add (((ji48)).toNat * 3)).block, (ad192.add (((ji48)).toNat * 3)).off + 1, none⟩ = some (.int .i64 ((rd_T30 x165003_2 (ji48)).f1)) ∧ w'.cell? ⟨(ad192.add (((ji48)).toNat * 3)).block, (ad192.add (((ji48)).toNat * 3)).off + 2, none⟩ = some (.int .i64 ((rd_T30 x165003_2 (ji48)).f2)) ∧ w'.cell? (ad191.add (x14_4).toNat) = some (.int .i64 (rd x8_2 x14_4)) ∧ w'.cell? (ad194.add ((ji48)).toNat) = some (.int .i64 (rd t177 (ji48))) ∧ w'.cell? (ad184.add ((x14_4).toNat * 2)) = some (.slice A184_0 ((rd_T61 t180 x14_4).f0).length c184_0) ∧ w'.cell? ⟨(ad184.add ((x14_4).toNat * 2)).block, (ad184.add ((x14_4).toNat * 2)).off + 1, none⟩ = some (.int .i64 ((rd_T61 t180 x14_4).f1))) (ds := []) #[false, false, false, false, false, false, false, false, false, false, false, false, false, false, false, false, false, false, false, false, false, false, false, false, false, false, false, false, false, false, false, false, false, false, false, false, false, false, false, false, false, false, false, false, false, false] (by kernel_rfl) rfl rfl ⟨(blk_cell BK164.out 0).trans rfl, (blk_cell BK164.out 1).trans rfl, (blk_cell BK164.out 2).trans rfl, (blk_cell BK164.out 3).trans rfl, hx184_0, hx184_1, hx190_0, hx190_1, hx191_0, hx192_0, hx192_1, hx192_2, hx193_0, hx194_0, hx195_0, hx195_1⟩ (fun hHeld => ?_); refine with_tabW racewaylaw8_PlainSingle.tab20 racewaylaw8_PlainSingle.bits20 (fun HT_ HW_ => ?_)
                                                    generalize wr.drew = w55 at HO_8 HO_11 HO_12 HO_165003 BK164 HB HL184_0 HL190_0 HL195_0 HR184_0 HR188 HR190_0 HR195_0 hx184_0 hx184_1 hx190_0 hx190_1 hx191_0 hx192_0 hx192_1 hx192_2 hx193_0 hx194_0 hx195_0 hx195_1 hHeld ⊢
                                                    refine pure_ (i := 0) (N := some 79) (v := ?_) (a' := ?_) #[true, false, false, false, false, false, false, false, false, false, false, false, false, false, false, false, false, false, false, false, false, false, false, false, false, false, false, false, false, false, false, false, false, false, false, false, false, false, false, false, false, false, false, false, false, false] rfl rfl (any_of HT_.out (by kernel_rfl)) (fun _ _ _ h => h) (Or.inl ⟨by rfl, ?_⟩) ?_ ?_
                                                    rotate_left
                                                    · intro w'
                                                      go_simp
                                                      with_reducible rfl
                                                    rotate_left
                                                    · simp only [Act.put, List.setIfInBounds_toArray, List.set_cons_zero, List.set_cons_succ, i64_w, i32_w]
                                                      rfl
                                                    refine pure_ (i := 1) (N := some 80) (v := ?_) (a' := ?_) #[true, true, false, false, false, false, false, false, false, false, false, false, false, false, false, false, false, false, false, false, false, false, false, false, false, false, false, false, false, false, false, false, false, false, false, false, false, false, false, false, false, false, false, false, false, false] rfl rfl (any_of HT_.out (by kernel_rfl)) (fun _ _ _ h => h) (Or.inl ⟨by rfl, ?_⟩) ?_ ?_
                                                    rotate_left
                                                    · intro w'
                                                      go_simp
                                                      with_reducible rfl
                                                    rotate_left
                                                    · simp only [Act.put, List.setIfInBounds_toArray, List.set_cons_zero, List.set_cons_succ, i64_w, i32_w]
                                                      rfl
                                                    refine pure_ (i := 2) (N := some 81) (v := ?_) (a' := ?_) #[true, true, true, false, false, false, false, false, false, false, false, false, false, false, false, false, false, false, false, false, false, false, false, false, false, false, false, false, false, false, false, false, false, false, false, false, false, false, false, false, false, false, false, false, false, false] rfl rfl (any_of HT_.out (by kernel_rfl)) (fun _ _ _ h => h) (Or.inl ⟨by rfl, ?_⟩) ?_ ?_
                                                    rotate_left
                                                    · intro w'
                                                      go_simp
                                                      with_reducible rfl
                                                    rotate_left
                                                    · simp only [Act.put, List.setIfInBounds_toArray, List.set_cons_zero, List.set_cons_succ, i64_w, i32_w]
                                                      rfl
                                                    refine pure_ (i := 3) (N := some 82) (v := ?_) (a' := ?_) #[true, true, true, true, false, false, false, false, false, false, false, false, false, false, false, false, false, false, false, false, false, false, false, false, false, false, false, false, false, false, false, false, false, false, false, false, false, false, false, false, false, false, false, false, false, false] rfl rfl (any_of HT_.out (by kernel_rfl)) (fun _ _ _ h => h) (Or.inl ⟨by rfl, ?_⟩) ?_ ?_
                                                    rotate_left
                                                    · intro w'
                                                      go_simp
                                                      with_reducible rfl
                                                    rotate_left
                                                    · simp only [Act.put, List.setIfInBounds_toArray, List.set_cons_zero, List.set_cons_succ, i64_w, i32_w]
                                                      rfl
                                                    refine pure_ (i := 5) (N := some 84) (v := ?_) (a' := ?_) #[true, true, true, true, false, true, false, false, false, false, false, false, false, false, false, false, false, false, false, false, false, false, false, false, false, false, false, false, false, false, false, false, false, false, false, false, false, false, false, false, false, false, false, false, false, false] rfl rfl (any_of HT_.out (by kernel_rfl)) (fun _ _ _ h => h) (Or.inl ⟨by rfl, ?_⟩) ?_ ?_
                                                    rotate_left
                                                    · intro w'
                                                      go_simp
                                                      with_reducible rfl
                                                    rotate_left
                                                    · simp only [Act.put, List.setIfInBounds_toArray, List.set_cons_zero, List.set_cons_succ, i64_w, i32_w]
                                                      rfl
                                                    refine pure_ (i := 6) (N := some 85) (v := ?_) (a' := ?_) #[true, true, true, true, false, true, true, false, false, false, false, false, false, false, false, false, false, false, false, false, false, false, false, false, false, false, false, false, false, false, false, false, false, false, false, false, false, false, false, false, false, false, false, false, false, false] rfl rfl (any_of HT_.out (by kernel_rfl)) (fun _ _ _ h => h) (Or.inl ⟨by rfl, ?_⟩) ?_ ?_
                                                    rotate_left
                                                    · intro w'
                                                      go_simp
                                                      with_reducible rfl
                                                    rotate_left
                                                    · simp only [Act.put, List.setIfInBounds_toArray, List.set_cons_zero, List.set_cons_succ, i64_w, i32_w]
                                                      rfl
                                                    refine pure_ (i := 7) (N := some 86) (v := ?_) (a' := ?_) #[true, true, true, true, false, true, true, true, false, false, false, false, false, false, false, false, false, false, false, false, false, false, false, false, false, false, false, false, false, false, false, false, false, false, false, false, false, false, false, false, false, false, false, false, false, false] rfl rfl (any_of HT_.out (by kernel_rfl)) (fun _ _ _ h => h) (Or.inl ⟨by rfl, ?_⟩) ?_ ?_
                                                    rotate_left
                                                    · intro w'
                                                      go_simp
                                                      with_reducible rfl
                                                    rotate_left
                                                    · simp only [Act.put, List.setIfInBounds_toArray, List.set_cons_zero, List.set_cons_succ, i64_w, i32_w]
                                                      rfl
                                                    refine pure_ (i := 8) (N := some 87) (v := ?_) (a' := ?_) #[true, true, true, true, false, true, true, true, true, false, false, false, false, false, false, false, false, false, false, false, false, false, false, false, false, false, false, false, false, false, false, false, false, false, false, false, false, false, false, false, false, false, false, false, false, false] rfl rfl (any_of HT_.out (by kernel_rfl)) (fun _ _ _ h => h) (Or.inl ⟨by rfl, ?_⟩) ?_ ?_
                                                    rotate_left
                                                    · intro w'
                                                      go_simp
                                                      with_reducible rfl
                                                    rotate_left
                                                    · simp only [Act.put, List.setIfInBounds_toArray, List.set_cons_zero, List.set_cons_succ, i64_w, i32_w]
                                                      rfl
                                                    refine pure_ (i := 9) (N := some 88) (v := ?_) (a' := ?_) #[true, true, true, true, false, true, true, true, true, true, false, false, false, false, false, false, false, false, false, false, false, false, false, false, false, false, false, false, false, false, false, false, false, false, false, false, false, false, false, false, false, false, false, false, false, false] rfl rfl (any_of HT_.out (by kernel_rfl)) (fun _ _ _ h => h) (Or.inl ⟨by rfl, ?_⟩) ?_ ?_
                                                    rotate_left
                                                    · intro w'
                                                      go_simp
                                                      with_reducible rfl
                                                    rotate_left
                                                    · simp only [Act.put, List.setIfInBounds_toArray, List.set_cons_zero, List.set_cons_succ, i64_w, i32_w]
                                                      rfl
                                                    refine take_ (i := 4) (N := some 83) (v := ?_) (a' := ?_) #[true, true, true, true, true, true, true, true, true, true, false, false, false, false, false, false, false, false, false, false, false, false, false, false, false, false, false, false, false, false, false, false, false, false, false, false, false, false, false, false, false, false, false, false, false, false] rfl rfl (take_ofW HT_.out HW_.out (by kernel_rfl)) (fun _ _ _ h => h) (Or.inl ⟨by rfl, ?_⟩) hHeld ?_ ?_
                                                    rotate_left
                                                    · rintro w' ⟨s0, s1, s2, s3, s4, s5, s6, s7, s8, s9, s10, s11, s12, s13, s14, s15⟩
                                                      go_simp
                                                      with_reducible rfl
                                                    rotate_left
                                                    · simp only [Act.put, List.setIfInBounds_toArray, List.set_cons_zero, List.set_cons_succ, i64_w, i32_w]
                                                      rfl
                                                    refine one_ (i := 10) (N := some 89) #[true, true, true, true, true, true, true, true, true, true, true, false, false, false, false, false, false, false, false, false, false, false, false, false, false, false, false, false, false, false, false, false, false, false, false, false, false, false, false, false, false, false, false, false, false, false] rfl rfl (one_of HT_.out (by kernel_rfl)) (by decide) (fun K hK => ?_)
                                                    refine goes_ Try.func30 (by kernel_rfl) rfl #[.slice A184_0 ((rd_T61 t180 x14_4).f0).length c184_0, .slice A56 y185.length c56] (by rfl) rfl rfl (by (try simp only [List.map_toArray, List.map_cons, List.map_nil]); first | done | rfl | (simp only [List.length_drop, List.length_take]; rfl)) ?_
                                                    with_reducible refine (racewaylaw8_same.calls k4 _ _ ((rd_T61 t180 x14_4).f0) _ _ y185 true _ ?side1 ?side2 ?side3 ?side4 A45.out).mono ?_
                                                    (case side1 => repeat (first | exact (by repeat (first | (with_reducible exact HR184_0.out) | (with_reducible refine Kd.C_alloc ?_ _) | (with_reducible refine Kd.C_drewN ?_ _) | (with_reducible refine Kd.C_drew ?_) | exact HR184_0.out)) | (with_reducible refine Kd.C_alloc ?_ _) | (with_reducible refine Kd.C_drewN ?_ _) | (with_reducible refine Kd.C_drew ?_)))
                                                    (case side2 => exact HC184_0.out)
                                                    (case side3 => repeat (first | exact (by repeat (first | (with_reducible exact HR188.out) | (with_reducible refine Kd.C_alloc ?_ _) | (with_reducible refine Kd.C_drewN ?_ _) | (with_reducible refine Kd.C_drew ?_) | exact HR188.out)) | (with_reducible refine Kd.C_alloc ?_ _) | (with_reducible refine Kd.C_drewN ?_ _) | (with_reducible refine Kd.C_drew ?_)))
                                                    (case side4 => exact HC188.out)
                                                    rintro e w' ⟨rfl, ⟨nd, rfl⟩⟩
                                                    refine ⟨_, rfl, ?_⟩
                                                    obtain ⟨Ao58, co58, eo58⟩ := Kd.R_slice HO_11.out
                                                    (first | subst eo58 | (injection eo58 with f1_ f2_ f3_; have f4_ := f1_.symm; have f5_ := f3_.symm; clear f1_ f2_ f3_; subst f4_; subst f5_))
                                                    refine hK.out _ _ ⟨(blk_cell BK164.out 0).trans rfl, (blk_cell BK164.out 1).trans rfl, (blk_cell BK164.out 2).trans rfl, (blk_cell BK164.out 3).trans rfl, hHeld.2.2.2.2.1, hHeld.2.2.2.2.2.1, hHeld.2.2.2.2.2.2.1, hHeld.2.2.2.2.2.2.2.1, hHeld.2.2.2.2.2.2.2.2.1, hHeld.2.2.2.2.2.2.2.2.2.1, hHeld.2.2.2.2.2.2.2.2.2.2.1, hHeld.2.2.2.2.2.2.2.2.2.2.2.1, hHeld.2.2.2.2.2.2.2.2.2.2.2.2.1, hHeld.2.2.2.2.2.2.2.2.2.2.2.2.2.1, hHeld.2.2.2.2.2.2.2.2.2.2.2.2.2.2.1, hHeld.2.2.2.2.2.2.2.2.2.2.2.2.2.2.2⟩ (fun hHeld => ?_)
                                                    clear hK K
                                                    refine norm_ (a' := ?_) ?_ ?_
                                                    rotate_left
                                                    · show Act.put _ (some 89) _ = _
                                                      simp only [Act.put, List.setIfInBounds_toArray, List.set_cons_zero, List.set_cons_succ, i64_w, i32_w]
                                                      rfl
                                                    refine pure_ (i := 11) (N := some 90) (v := ?_) (a' := ?_) #[true, true, true, true, true, true, true, true, true, true, true, true, false, false, false, false, false, false, false, false, false, false, false, false, false, false, false, false, false, false, false, false, false, false, false, false, false, false, false, false, false, false, false, false, false, false] rfl rfl (any_of HT_.out (by kernel_rfl)) (fun _ _ _ h => h) (Or.inl ⟨by rfl, ?_⟩) ?_ ?_
                                                    rotate_left
                                                    · intro w'
                                                      go_simp
                                                      with_reducible rfl
                                                    rotate_left
                                                    · simp only [Act.put, List.setIfInBounds_toArray, List.set_cons_zero, List.set_cons_succ, i64_w, i32_w]
                                                      rfl
                                                    refine pure_ (i := 12) (N := some 91) (v := ?_) (a' := ?_) #[true, true, true, true, true, true, true, true, true, true, true, true, true, false, false, false, false, false, false, false, false, false, false, false, false, false, false, false, false, false, false, false, false, false, false, false, false, false, false, false, false, false, false, false, false, false] rfl rfl (any_of HT_.out (by kernel_rfl)) (fun _ _ _ h => h) (Or.inl ⟨by rfl, ?_⟩) ?_ ?_
                                                    rotate_left
                                                    · intro w'
                                                      go_simp
                                                      with_reducible rfl
                                                    rotate_left
                                                    · simp only [Act.put, List.setIfInBounds_toArray, List.set_cons_zero, List.set_cons_succ, i64_w, i32_w]
                                                      rfl
                                                    refine pure_ (i := 13) (N := some 92) (v := ?_) (a' := ?_) #[true, true, true, true, true, true, true, true, true, true, true, true, true, true, false, false, false, false, false, false, false, false, false, false, false, false, false, false, false, false, false, false, false, false, false, false, false, false, false, false, false, false, false, false, false, false] rfl rfl (any_of HT_.out (by kernel_rfl)) (fun _ _ _ h => h) (Or.inl ⟨by rfl, ?_⟩) ?_ ?_
                                                    rotate_left
                                                    · intro w'
                                                      go_simp
                                                      with_reducible rfl
                                                    rotate_left
                                                    · simp only [Act.put, List.setIfInBounds_toArray, List.set_cons_zero, List.set_cons_succ, i64_w, i32_w]
                                                      rfl
                                                    refine pure_ (i := 14) (N := some 93) (v := ?_) (a' := ?_) #[true, true, true, true, true, true, true, true, true, true, true, true, true, true, true, false, false, false, false, false, false, false, false, false, false, false, false, false, false, false, false, false, false, false, false, false, false, false, false, false, false, false, false, false, false, false] rfl rfl (any_of HT_.out (by kernel_rfl)) (fun _ _ _ h => h) (Or.inl ⟨by rfl, ?_⟩) ?_ ?_
                                                    rotate_left
                                                    · intro w'
                                                      go_simp
                                                      with_reducible rfl
                                                    rotate_left
                                                    · simp only [Act.put, List.setIfInBounds_toArray, List.set_cons_zero, List.set_cons_succ, i64_w, i32_w]
                                                      rfl
                                                    refine pure_ (i := 15) (N := some 94) (v := ?_) (a' := ?_) #[true, true, true, true, true, true, true, true, true, true, true, true, true, true, true, true, false, false, false, false, false, false, false, false, false, false, false, false, false, false, false, false, false, false, false, false, false, false, false, false, false, false, false, false, false, false] rfl rfl (any_of HT_.out (by kernel_rfl)) (fun _ _ _ h => h) (Or.inl ⟨by rfl, ?_⟩) ?_ ?_
                                                    rotate_left
                                                    · intro w'
                                                      go_simp
                                                      with_reducible rfl
                                                    rotate_left
                                                    · simp only [Act.put, List.setIfInBounds_toArray, List.set_cons_zero, List.set_cons_succ, i64_w, i32_w]
                                                      rfl
                                                    refine pure_ (i := 16) (N := some 95) (v := ?_) (a' := ?_) #[true, true, true, true, true, true, true, true, true, true, true, true, true, true, true, true, true, false, false, false, false, false, false, false, false, false, false, false, false, false, false, false, false, false, false, false, false, false, false, false, false, false, false, false, false, false] rfl rfl (any_of HT_.out (by kernel_rfl)) (fun _ _ _ h => h) (Or.inl ⟨by rfl, ?_⟩) ?_ ?_
                                                    rotate_left
                                                    · intro w'
                                                      go_simp
                                                      with_reducible rfl
                                                    rotate_left
                                                    · simp only [Act.put, List.setIfInBounds_toArray, List.set_cons_zero, List.set_cons_succ, i64_w, i32_w]
                                                      rfl
                                                    refine pure_ (i := 18) (N := some 97) (v := ?_) (a' := ?_) #[true, true, true, true, true, true, true, true, true, true, true, true, true, true, true, true, true, false, true, false, false, false, false, false, false, false, false, false, false, false, false, false, false, false, false, false, false, false, false, false, false, false, false, false, false, false] rfl rfl (any_of HT_.out (by kernel_rfl)) (fun _ _ _ h => h) (Or.inl ⟨by rfl, ?_⟩) ?_ ?_
                                                    rotate_left
                                                    · intro w'
                                                      go_simp
                                                      with_reducible rfl
                                                    rotate_left
                                                    · simp only [Act.put, List.setIfInBounds_toArray, List.set_cons_zero, List.set_cons_succ, i64_w, i32_w]
                                                      rfl
                                                    refine pure_ (i := 20) (N := some 99) (v := ?_) (a' := ?_) #[true, true, true, true, true, true, true, true, true, true, true, true, true, true, true, true, true, false, true, false, true, false, false, false, false, false, false, false, false, false, false, false, false, false, false, false, false, false, false, false, false, false, false, false, false, false] rfl rfl (any_of HT_.out (by kernel_rfl)) (fun _ _ _ h => h) (Or.inl ⟨by rfl, ?_⟩) ?_ ?_
                                                    rotate_left
                                                    · intro w'
                                                      go_simp
                                                      with_reducible rfl
                                                    rotate_left
                                                    · simp only [Act.put, List.setIfInBounds_toArray, List.set_cons_zero, List.set_cons_succ, i64_w, i32_w]
                                                      rfl
                                                    refine pure_ (i := 21) (N := some 100) (v := ?_) (a' := ?_) #[true, true, true, true, true, true, true, true, true, true, true, true, true, true, true, true, true, false, true, false, true, true, false, false, false, false, false, false, false, false, false, false, false, false, false, false, false, false, false, false, false, false, false, false, false, false] rfl rfl (any_of HT_.out (by kernel_rfl)) (fun _ _ _ h => h) (Or.inl ⟨by rfl, ?_⟩) ?_ ?_
                                                    rotate_left
                                                    · intro w'
                                                      go_simp
                                                      with_reducible rfl
                                                    rotate_left
                                                    · simp only [Act.put, List.setIfInBounds_toArray, List.set_cons_zero, List.set_cons_succ, i64_w, i32_w]
                                                      rfl
                                                    refine pure_ (i := 22) (N := some 101) (v := ?_) (a' := ?_) #[true, true, true, true, true, true, true, true, true, true, true, true, true, true, true, true, true, false, true, false, true, true, true, false, false, false, false, false, false, false, false, false, false, false, false, false, false, false, false, false, false, false, false, false, false, false] rfl rfl (any_of HT_.out (by kernel_rfl)) (fun _ _ _ h => h) (Or.inl ⟨by rfl, ?_⟩) ?_ ?_
                                                    rotate_left
                                                    · intro w'
                                                      go_simp
                                                      with_reducible rfl
                                                    rotate_left
                                                    · simp only [Act.put, List.setIfInBounds_toArray, List.set_cons_zero, List.set_cons_succ, i64_w, i32_w]
                                                      rfl
                                                    refine take_ (i := 17) (N := some 96) (v := ?_) (a' := ?_) #[true, true, true, true, true, true, true, true, true, true, true, true, true, true, true, true, true, true, true, false, true, true, true, false, false, false, false, false, false, false, false, false, false, false, false, false, false, false, false, false, false, false, false, false, false, false] rfl rfl (take_ofW HT_.out HW_.out (by kernel_rfl)) (fun _ _ _ h => h) (Or.inl ⟨by rfl, ?_⟩) hHeld ?_ ?_
                                                    rotate_left
                                                    · rintro w' ⟨s0, s1, s2, s3, s4, s5, s6, s7, s8, s9, s10, s11, s12, s13, s14, s15⟩
                                                      go_simp
                                                      with_reducible rfl
                                                    rotate_left
                                                    · simp only [Act.put, List.setIfInBounds_toArray, List.set_cons_zero, List.set_cons_succ, i64_w, i32_w]
                                                      rfl
                                                    refine take_ (i := 19) (N := some 98) (v := ?_) (a' := ?_) #[true, true, true, true, true, true, true, true, true, true, true, true, true, true, true, true, true, true, true, true, true, true, true, false, false, false, false, false, false, false, false, false, false, false, false, false, false, false, false, false, false, false, false, false, false, false] rfl rfl (take_ofW HT_.out HW_.out (by kernel_rfl)) (fun _ _ _ h => h) (Or.inl ⟨by rfl, ?_⟩) hHeld ?_ ?_
                                                    rotate_left
                                                    · rintro w' ⟨s0, s1, s2, s3, s4, s5, s6, s7, s8, s9, s10, s11, s12, s13, s14, s15⟩
                                                      go_simp
                                                      with_reducible rfl
                                                    rotate_left
                                                    · simp only [Act.put, List.setIfInBounds_toArray, List.set_cons_zero, List.set_cons_succ, i64_w, i32_w]
                                                      rfl
                                                    refine take_ (i := 23) (N := some 102) (v := ?_) (a' := ?_) #[true, true, true, true, true, true, true, true, true, true, true, true, true, true, true, true, true, true, true, true, true, true, true, true, false, false, false, false, false, false, false, false, false, false, false, false, false, false, false, false, false, false, false, false, false, false] rfl rfl (take_ofW HT_.out HW_.out (by kernel_rfl)) (fun _ _ _ h => h) (Or.inl ⟨by rfl, ?_⟩) hHeld ?_ ?_
                                                    rotate_left
                                                    · rintro w' ⟨s0, s1, s2, s3, s4, s5, s6, s7, s8, s9, s10, s11, s12, s13, s14, s15⟩
                                                      go_simp
                                                      with_reducible rfl
                                                    rotate_left
                                                    · simp only [Act.put, List.setIfInBounds_toArray, List.set_cons_zero, List.set_cons_succ, i64_w, i32_w]
                                                      rfl
                                                    refine pure_ (i := 24) (N := some 103) (v := ?_) (a' := ?_) #[true, true, true, true, true, true, true, true, true, true, true, true, true, true, true, true, true, true, true, true, true, true, true, true, true, false, false, false, false, false, false, false, false, false, false, false, false, false, false, false, false, false, false, false, false, false] rfl rfl (any_of HT_.out (by kernel_rfl)) (fun _ _ _ h => h) (Or.inl ⟨by rfl, ?_⟩) ?_ ?_
                                                    rotate_left
                                                    · intro w'
                                                      go_simp
                                                      with_reducible rfl
                                                    rotate_left
                                                    · simp only [Act.put, List.setIfInBounds_toArray, List.set_cons_zero, List.set_cons_succ, i64_w, i32_w]
                                                      rfl
                                                    refine pure_ (i := 25) (N := some 104) (v := ?_) (a' := ?_) #[true, true, true, true, true, true, true, true, true, true, true, true, true, true, true, true, true, true, true, true, true, true, true, true, true, true, false, false, false, false, false, false, false, false, false, false, false, false, false, false, false, false, false, false, false, false] rfl rfl (any_of HT_.out (by kernel_rfl)) (fun _ _ _ h => h) (Or.inl ⟨by rfl, ?_⟩) ?_ ?_
                                                    rotate_left
                                                    · intro w'
                                                      go_simp
                                                      with_reducible rfl
                                                    rotate_left
                                                    · simp only [Act.put, List.setIfInBounds_toArray, List.set_cons_zero, List.set_cons_succ, i64_w, i32_w]
                                                      rfl
                                                    refine pure_ (i := 26) (N := some 105) (v := ?_) (a' := ?_) #[true, true, true, true, true, true, true, true, true, true, true, true, true, true, true, true, true, true, true, true, true, true, true, true, true, true, true, false, false, false, false, false, false, false, false, false, false, false, false, false, false, false, false, false, false, false] rfl rfl (any_of HT_.out (by kernel_rfl)) (fun _ _ _ h => h) (Or.inl ⟨by rfl, ?_⟩) ?_ ?_
                                                    rotate_left
                                                    · intro w'
                                                      go_simp
                                                      with_reducible rfl
                                                    rotate_left
                                                    · simp only [Act.put, List.setIfInBounds_toArray, List.set_cons_zero, List.set_cons_succ, i64_w, i32_w]
                                                      rfl
                                                    refine take_ (i := 27) (N := some 106) (v := ?_) (a' := ?_) #[true, true, true, true, true, true, true, true, true, true, true, true, true, true, true, true, true, true, true, true, true, true, true, true, true, true, true, true, false, false, false, false, false, false, false, false, false, false, false, false, false, false, false, false, false, false] rfl rfl (take_ofW HT_.out HW_.out (by kernel_rfl)) (fun _ _ _ h => h) (Or.inl ⟨by rfl, ?_⟩) hHeld ?_ ?_
                                                    rotate_left
                                                    · rintro w' ⟨s0, s1, s2, s3, s4, s5, s6, s7, s8, s9, s10, s11, s12, s13, s14, s15⟩
                                                      go_simp
                                                      with_reducible rfl
                                                    rotate_left
                                                    · simp only [Act.put, List.setIfInBounds_toArray, List.set_cons_zero, List.set_cons_succ, i64_w, i32_w]
                                                      rfl
                                                    refine pure_ (i := 28) (N := some 107) (v := ?_) (a' := ?_) #[true, true, true, true, true, true, true, true, true, true, true, true, true, true, true, true, true, true, true, true, true, true, true, true, true, true, true, true, true, false, false, false, false, false, false, false, false, false, false, false, false, false, false, false, false, false] rfl rfl (any_of HT_.out (by kernel_rfl)) (fun _ _ _ h => h) (Or.inl ⟨by rfl, ?_⟩) ?_ ?_
                                                    rotate_left
                                                    · intro w'
                                                      go_simp
                                                      with_reducible rfl
                                                    rotate_left
                                                    · simp only [Act.put, List.setIfInBounds_toArray, List.set_cons_zero, List.set_cons_succ, i64_w, i32_w]
                                                      rfl
                                                    refine pure_ (i := 29) (N := some 108) (v := ?_) (a' := ?_) #[true, true, true, true, true, true, true, true, true, true, true, true, true, true, true, true, true, true, true, true, true, true, true, true, true, true, true, true, true, true, false, false, false, false, false, false, false, false, false, false, false, false, false, false, false, false] rfl rfl (any_of HT_.out (by kernel_rfl)) (fun _ _ _ h => h) (Or.inl ⟨by rfl, ?_⟩) ?_ ?_
                                                    rotate_left
                                                    · intro w'
                                                      go_simp
                                                      with_reducible rfl
                                                    rotate_left
                                                    · simp only [Act.put, List.setIfInBounds_toArray, List.set_cons_zero, List.set_cons_succ, i64_w, i32_w]
                                                      rfl
                                                    refine pure_ (i := 30) (N := some 109) (v := ?_) (a' := ?_) #[true, true, true, true, true, true, true, true, true, true, true, true, true, true, true, true, true, true, true, true, true, true, true, true, true, true, true, true, true, true, true, false, false, false, false, false, false, false, false, false, false, false, false, false, false, false] rfl rfl (any_of HT_.out (by kernel_rfl)) (fun _ _ _ h => h) (Or.inl ⟨by rfl, ?_⟩) ?_ ?_
                                                    rotate_left
                                                    · intro w'
                                                      go_simp
                                                      with_reducible rfl
                                                    rotate_left
                                                    · simp only [Act.put, List.setIfInBounds_toArray, List.set_cons_zero, List.set_cons_succ, i64_w, i32_w]
                                                      rfl
                                                    refine pure_ (i := 31) (N := some 110) (v := ?_) (a' := ?_) #[true, true, true, true, true, true, true, true, true, true, true, true, true, true, true, true, true, true, true, true, true, true, true, true, true, true, true, true, true, true, true, true, false, false, false, false, false, false, false, false, false, false, false, false, false, false] rfl rfl (any_of HT_.out (by kernel_rfl)) (fun _ _ _ h => h) (Or.inl ⟨by rfl, ?_⟩) ?_ ?_
                                                    rotate_left
                                                    · intro w'
                                                      go_simp
                                                      with_reducible rfl
                                                    rotate_left
                                                    · simp only [Act.put, List.setIfInBounds_toArray, List.set_cons_zero, List.set_cons_succ, i64_w, i32_w]
                                                      rfl
                                                    refine pure_ (i := 32) (N := some 111) (v := ?_) (a' := ?_) #[true, true, true, true, true, true, true, true, true, true, true, true, true, true, true, true, true, true, true, true, true, true, true, true, true, true, true, true, true, true, true, true, true, false, false, false, false, false, false, false, false, false, false, false, false, false] rfl rfl (any_of HT_.out (by kernel_rfl)) (fun _ _ _ h => h) (Or.inl ⟨by rfl, ?_⟩) ?_ ?_
                                                    rotate_left
                                                    · intro w'
                                                      go_simp
                                                      with_reducible rfl
                                                    rotate_left
                                                    · simp only [Act.put, List.setIfInBounds_toArray, List.set_cons_zero, List.set_cons_succ, i64_w, i32_w]
                                                      rfl
                                                    refine pure_ (i := 33) (N := some 112) (v := ?_) (a' := ?_) #[true, true, true, true, true, true, true, true, true, true, true, true, true, true, true, true, true, true, true, true, true, true, true, true, true, true, true, true, true, true, true, true, true, true, false, false, false, false, false, false, false, false, false, false, false, false] rfl rfl (any_of HT_.out (by kernel_rfl)) (fun _ _ _ h => h) (Or.inl ⟨by rfl, ?_⟩) ?_ ?_
                                                    rotate_left
                                                    · intro w'
                                                      go_simp
                                                      with_reducible rfl
                                                    rotate_left
                                                    · simp only [Act.put, List.setIfInBounds_toArray, List.set_cons_zero, List.set_cons_succ, i64_w, i32_w]
                                                      rfl
                                                    refine pure_ (i := 34) (N := some 113) (v := ?_) (a' := ?_) #[true, true, true, true, true, true, true, true, true, true, true, true, true, true, true, true, true, true, true, true, true, true, true, true, true, true, true, true, true, true, true, true, true, true, true, false, false, false, false, false, false, false, false, false, false, false] rfl rfl (any_of HT_.out (by kernel_rfl)) (fun _ _ _ h => h) (Or.inl ⟨by rfl, ?_⟩) ?_ ?_
                                                    rotate_left
                                                    · intro w'
                                                      go_simp
                                                      with_reducible rfl
                                                    rotate_left
                                                    · simp only [Act.put, List.setIfInBounds_toArray, List.set_cons_zero, List.set_cons_succ, i64_w, i32_w]
                                                      rfl
                                                    refine pure_ (i := 39) (N := some 118) (v := ?_) (a' := ?_) #[true, true, true, true, true, true, true, true, true, true, true, true, true, true, true, true, true, true, true, true, true, true, true, true, true, true, true, true, true, true, true, true, true, true, true, false, false, false, false, true, false, false, false, false, false, false] rfl rfl (any_of HT_.out (by kernel_rfl)) (fun _ _ _ h => h) (Or.inl ⟨by rfl, ?_⟩) ?_ ?_
                                                    rotate_left
                                                    · intro w'
                                                      go_simp
                                                      with_reducible rfl
                                                    rotate_left
                                                    · simp only [Act.put, List.setIfInBounds_toArray, List.set_cons_zero, List.set_cons_succ, i64_w, i32_w]
                                                      rfl
                                                    refine pure_ (i := 40) (N := some 119) (v := ?_) (a' := ?_) #[true, true, true, true, true, true, true, true, true, true, true, true, true, true, true, true, true, true, true, true, true, true, true, true, true, true, true, true, true, true, true, true, true, true, true, false, false, false, false, true, true, false, false, false, false, false] rfl rfl (any_of HT_.out (by kernel_rfl)) (fun _ _ _ h => h) (Or.inl ⟨by rfl, ?_⟩) ?_ ?_
                                                    rotate_left
                                                    · intro w'
                                                      go_simp
                                                      with_reducible rfl
                                                    rotate_left
                                                    · simp only [Act.put, List.setIfInBounds_toArray, List.set_cons_zero, List.set_cons_succ, i64_w, i32_w]
                                                      rfl
                                                    refine pure_ (i := 41) (N := some 120) (v := ?_) (a' := ?_) #[true, true, true, true, true, true, true, true, true, true, true, true, true, true, true, true, true, true, true, true, true, true, true, true, true, true, true, true, true, true, true, true, true, true, true, false, false, false, false, true, true, true, false, false, false, false] rfl rfl (any_of HT_.out (by kernel_rfl)) (fun _ _ _ h => h) (Or.inl ⟨by rfl, ?_⟩) ?_ ?_
                                                    rotate_left
                                                    · intro w'
                                                      go_simp
                                                      with_reducible rfl
                                                    rotate_left
                                                    · simp only [Act.put, List.setIfInBounds_toArray, List.set_cons_zero, List.set_cons_succ, i64_w, i32_w]
                                                      rfl
                                                    refine pure_ (i := 42) (N := some 121) (v := ?_) (a' := ?_) #[true, true, true, true, true, true, true, true, true, true, true, true, true, true, true, true, true, true, true, true, true, true, true, true, true, true, true, true, true, true, true, true, true, true, true, false, false, false, false, true, true, true, true, false, false, false] rfl rfl (any_of HT_.out (by kernel_rfl)) (fun _ _ _ h => h) (Or.inl ⟨by rfl, ?_⟩) ?_ ?_
                                                    rotate_left
                                                    · intro w'
                                                      go_simp
                                                      with_reducible rfl
                                                    rotate_left
                                                    · simp only [Act.put, List.setIfInBounds_toArray, List.set_cons_zero, List.set_cons_succ, i64_w, i32_w]
                                                      rfl
                                                    refine take_ (i := 35) (N := some 114) (v := ?_) (a' := ?_) #[true, true, true, true, true, true, true, true, true, true, true, true, true, true, true, true, true, true, true, true, true, true, true, true, true, true, true, true, true, true, true, true, true, true, true, true, false, false, false, true, true, true, true, false, false, false] rfl rfl (take_ofW HT_.out HW_.out (by kernel_rfl)) (fun _ _ _ h => h) (Or.inl ⟨by rfl, ?_⟩) hHeld ?_ ?_
                                                    rotate_left
                                                    · rintro w' ⟨s0, s1, s2, s3, s4, s5, s6, s7, s8, s9, s10, s11, s12, s13, s14, s15⟩
                                                      go_simp
                                                      with_reducible rfl
                                                    rotate_left
                                                    · simp only [Act.put, List.setIfInBounds_toArray, List.set_cons_zero, List.set_cons_succ, i64_w, i32_w]
                                                      rfl
                                                    refine pure_ (i := 36) (N := some 115) (v := ?_) (a' := ?_) #[true, true, true, true, true, true, true, true, true, true, true, true, true, true, true, true, true, true, true, true, true, true, true, true, true, true, true, true, true, true, true, true, true, true, true, true, true, false, false, true, true, true, true, false, false, false] rfl rfl (any_of HT_.out (by kernel_rfl)) (fun _ _ _ h => h) (Or.inl ⟨by rfl, ?_⟩) ?_ ?_
                                                    rotate_left
                                                    · intro w'
                                                      go_simp
                                                      with_reducible rfl
                                                    rotate_left
                                                    · simp only [Act.put, List.setIfInBounds_toArray, List.set_cons_zero, List.set_cons_succ, i64_w, i32_w]
                                                      rfl
                                                    refine pure_ (i := 37) (N := some 116) (v := ?_) (a' := ?_) #[true, true, true, true, true, true, true, true, true, true, true, true, true, true, true, true, true, true, true, true, true, true, true, true, true, true, true, true, true, true, true, true, true, true, true, true, true, true, false, true, true, true, true, false, false, false] rfl rfl (any_of HT_.out (by kernel_rfl)) (fun _ _ _ h => h) (Or.inl ⟨by rfl, ?_⟩) ?_ ?_
                                                    rotate_left
                                                    · intro w'
                                                      go_simp
                                                      with_reducible rfl
                                                    rotate_left
                                                    · simp only [Act.put, List.setIfInBounds_toArray, List.set_cons_zero, List.set_cons_succ, i64_w, i32_w]
                                                      rfl
                                                    refine take_ (i := 38) (N := some 117) (v := ?_) (a' := ?_) #[true, true, true, true, true, true, true, true, true, true, true, true, true, true, true, true, true, true, true, true, true, true, true, true, true, true, true, true, true, true, true, true, true, true, true, true, true, true, true, true, true, true, true, false, false, false] rfl rfl (take_ofW HT_.out HW_.out (by kernel_rfl)) (fun _ _ _ h => h) (Or.inl ⟨by rfl, ?_⟩) hHeld ?_ ?_
                                                    rotate_left
                                                    · rintro w' ⟨s0, s1, s2, s3, s4, s5, s6, s7, s8, s9, s10, s11, s12, s13, s14, s15⟩
                                                      go_simp
                                                      with_reducible rfl
                                                    rotate_left
                                                    · simp only [Act.put, List.setIfInBounds_toArray, List.set_cons_zero, List.set_cons_succ, i64_w, i32_w]
                                                      rfl
                                                    refine take_ (i := 43) (N := some 122) (v := ?_) (a' := ?_) #[true, true, true, true, true, true, true, true, true, true, true, true, true, true, true, true, true, true, true, true, true, true, true, true, true, true, true, true, true, true, true, true, true, true, true, true, true, true, true, true, true, true, true, true, false, false] rfl rfl (take_ofW HT_.out HW_.out (by kernel_rfl)) (fun _ _ _ h => h) (Or.inl ⟨by rfl, ?_⟩) hHeld ?_ ?_
                                                    rotate_left
                                                    · rintro w' ⟨s0, s1, s2, s3, s4, s5, s6, s7, s8, s9, s10, s11, s12, s13, s14, s15⟩
                                                      go_simp
                                                      with_reducible rfl
                                                    rotate_left
                                                    · simp only [Act.put, List.setIfInBounds_toArray, List.set_cons_zero, List.set_cons_succ, i64_w, i32_w]
                                                      rfl
                                                    refine pure_ (i := 44) (N := some 123) (v := ?_) (a' := ?_) #[true, true, true, true, true, true, true, true, true, true, true, true, true, true, true, true, true, true, true, true, true, true, true, true, true, true, true, true, true, true, true, true, true, true, true, true, true, true, true, true, true, true, true, true, true, false] rfl rfl (any_of HT_.out (by kernel_rfl)) (fun _ _ _ h => h) (Or.inl ⟨by rfl, ?_⟩) ?_ ?_
                                                    rotate_left
                                                    · intro w'
                                                      go_simp
                                                      with_reducible rfl
                                                    rotate_left
                                                    · simp only [Act.put, List.setIfInBounds_toArray, List.set_cons_zero, List.set_cons_succ, i64_w, i32_w]
                                                      rfl
                                                    refine pure_ (i := 45) (N := some 124) (v := ?_) (a' := ?_) #[true, true, true, true, true, true, true, true, true, true, true, true, true, true, true, true, true, true, true, true, true, true, true, true, true, true, true, true, true, true, true, true, true, true, true, true, true, true, true, true, true, true, true, true, true, true] rfl rfl (any_of HT_.out (by kernel_rfl)) (fun _ _ _ h => h) (Or.inl ⟨by rfl, ?_⟩) ?_ ?_
                                                    rotate_left
                                                    · intro w'
                                                      go_simp
                                                      with_reducible rfl
                                                    rotate_left
                                                    · simp only [Act.put, List.setIfInBounds_toArray, List.set_cons_zero, List.set_cons_succ, i64_w, i32_w]
                                                      rfl
                                                    refine done_ (done_of HT_.out (by kernel_rfl)) ?_
                                                    try go_wp2
                                                    go_roundg k4
                                                    case measure => have := HJ3.out; have := HK2.out; have := HJ28.out; have := HK4.out; omega
                                                    case rel => exact ⟨(wrap64 (x14_4 + 1)), (by first | rfl | (simp; done) | (simp [*]; done)), H', ⟨by have := HJ3.out; have := HK2.out; have := HJ28.out; have := HK4.out; omega⟩, ⟨by (with_reducible repeat (first | apply Kd.R_alloc | apply Kd.R_drewN | apply Kd.R_drew)); exact HO_8.out⟩, ⟨by (with_reducible repeat (first | apply Kd.R_alloc | apply Kd.R_drewN | apply Kd.R_drew)); exact HO_11.out⟩, ⟨by (with_reducible repeat (first | apply Kd.S_alloc | apply Kd.S_drewN | apply Kd.S_drew)); exact HO_12.out⟩, ⟨by (with_reducible repeat (first | apply Kd.R_alloc | apply Kd.R_drewN | apply Kd.R_drew)); exact HO_165003.out⟩, ⟨by (with_reducible repeat (first | refine blk_drewN ?_ _ | refine blk_drew ?_ | refine blk_alloc ?_ _)); exact BK164.out⟩, ⟨by repeat (first | (with_reducible first | exact HB.out | apply below_alloc | apply pw_below_drewN | apply below_drew1 | refine below_set ?_ GE164.out) | exact HB.out)⟩⟩
                                                · rw [if_neg c53] at H
                                                  have c53b0 : ((rd t177 (ji48)) == ((rd_T61 t180 x14_4).f1)) = false := beq_eq_false_iff_ne.mpr c53
                                                  have c53b1 : ((rd t177 (ji48)) != ((rd_T61 t180 x14_4).f1)) = true := bne_iff_ne.mpr c53
                                                  exact absurd ((Option.some.inj H).trans hrT_.out) (by simp)
                                              · rw [if_neg c52] at H
                                                exact absurd H (by simp)
                                            · rw [if_neg c51] at H
                                              have c51b0 : (((rd_T61 t180 x14_4).f1) == ((rd_T30 x165003_2 (ji48)).f2)) = false := beq_eq_false_iff_ne.mpr c51
                                              have c51b1 : (((rd_T61 t180 x14_4).f1) != ((rd_T30 x165003_2 (ji48)).f2)) = true := bne_iff_ne.mpr c51
                                              exact absurd ((Option.some.inj H).trans hrT_.out) (by simp)
                                          · rw [if_neg c50] at H
                                            exact absurd H (by simp)
                                        · rw [if_neg c49] at H
                                          exact absurd H (by simp)
                                      · rw [if_neg c47] at H
                                        exact absurd H (by simp)
                                    · replace c46 := Bool.eq_false_iff.mpr c46
                                      subst c46
                                      have H1 : (some false) = some r := by rw [if_neg (show ¬ (false = true) by decide)] at H; exact H
                                      clear H
                                      have H := H1
                                      clear H1
                                      exact absurd ((Option.some.inj H).trans hrT_.out) (by simp)
                                  · rw [if_neg c44] at H
                                    exact absurd H (by simp)
                                · rw [if_neg c43] at H
                                  exact absurd H (by simp)
                              · rw [if_neg c41] at H
                                exact absurd H (by simp)
                            · rw [if_neg c40] at H
                              have c40b0 : decide (x14_4 < (t180.length : Int)) = false := decide_eq_false c40
                              clear c40
                              as_aux_lemma =>
                                obtain rfl := Option.some.inj H
                                obtain ⟨Ao59, co59, eo59⟩ := Kd.S_slice HO_12.out
                                subst eo59
                                go_wp2
                                go_ret
                                exact ⟨by first | rfl | (simp [errW_none, errW_some] <;> rfl) | (simp [*, errW_none, errW_some] <;> rfl), by repeat (first | (with_reducible first | exact HB.out | apply below_alloc | apply pw_below_drewN | apply below_drew1 | refine below_set ?_ GE164.out) | exact HB.out)⟩
                · rw [if_neg c27] at H
                  exact absurd H (by simp)
              · rw [if_neg c26] at H
                exact absurd H (by simp)

/-- THE ONE PURE STATEMENT of racewaylaw8_PlainSingle: yours. -/
def racewaylaw8_PlainSingle.Pure : Prop := ∀ (l0 : List Int) (a1 : Int), l0.length ≤ maxLen → l0.length * 8 ≤ 140737488351232 → (∀ x ∈ l0, (Lit.int .i64 x).wf = true) → (Lit.int .i64 a1).wf = true → ∃ k, racewaylaw8_PlainSingle.f k l0 a1 = some true
theorem racewaylaw8_PlainSingle.walk (P : racewaylaw8_PlainSingle.Pure) (a0 : Option Addr) (len0 cap0 : Nat) (z0 : List Int) (a1 : Int) (w : World) (w0 : (a0 = none ∧ len0 = 0 ∧ cap0 = 0 ∧ z0 = []) ∨ ∃ x, a0 = some x ∧ len0 ≤ cap0 ∧ cap0 ≤ maxLen ∧ z0.length = cap0 ∧ (∀ i, i < z0.length → w.cell? (x.add i) = some (.int .i64 (z0.getD i 0))) ∧ ∀ n ∈ z0, (Lit.int .i64 n).wf = true) (y0 : len0 * 8 ≤ 140737488351232) (w1 : (Lit.int .i64 a1).wf = true) :
    Calls Try.prog 9 #[.slice a0 len0 cap0, .int .i64 a1] w fun e w' => e = .returned (.bool true) ∧ Below w.heap.size w w' := by
  obtain ⟨l0, rfl, hr0, hm0, hw0, hc0⟩ := ReadsInt.ofRowC w0
  obtain ⟨k, h⟩ := P l0 a1 hm0 y0 hw0 w1
  refine (racewaylaw8_PlainSingle.calls k _ _ l0 a1 true w (Kd.C_of_reads (d := (0 : Int)) (h1 := fun _ => rfl) hr0) hc0 h ⟨rfl⟩).mono ?_
  rintro e w' ⟨rfl, hd⟩
  exact ⟨rfl, hd⟩

end Go.Proofs.Ytdiaedecnfbgdaa.PPlainSingle
