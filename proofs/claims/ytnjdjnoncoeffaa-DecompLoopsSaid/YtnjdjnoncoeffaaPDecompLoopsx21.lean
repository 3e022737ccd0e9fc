/- For the claim that the law DecompLoops of the given program holds for every input: a text written by a program (wip/myprint over the kit's print), with contracts by hand where it says MANUAL. -/
import Derived.Test.YtnjdjnoncoeffaaPDecompLoopsx0
import Derived.Test.YtnjdjnoncoeffaaPDecompLoopsx18
import Derived.Test.YtnjdjnoncoeffaaPDecompLoopsx19
import Derived.Test.YtnjdjnoncoeffaaPDecompLoopsx20
namespace Go.Proofs.Ytnjdjnoncoeffaa.PDecompLoops
open Go.RowKit Go.Proofs.YtnjdjnoncoeffaaW.PrintWords Go.Proofs.YtnjdjnoncoeffaaW.PrintLast Go.Proofs.YtnjdjnoncoeffaaW.PrintMore
attribute [local go_sem] max2_int min2_int max_two min_two max_three min_three max_four min_four   -- for this text's walks alone
set_option linter.unusedVariables false
set_option linter.unusedSimpArgs false

/-! ### racewaylaw15_DecompLoops: function 3 -/
mutual
def racewaylaw15_DecompLoops.j0 : Nat → List Int → Bool → Bool → Option (Bool)
  | 0, _, _, _ => none
  | k + 1, x0, x3, x20 => if x20 = true then (some x3) else (racewaylaw15_DecompLoops.l0 k x0 ([] : List Int) 0 0 (wrap64 (2 + (wrap64 (2 * (x0.length : Int))))) 1 2 ([] : List (S30)))
def racewaylaw15_DecompLoops.l0 : Nat → List Int → List Int → Int → Int → Int → Int → Int → List (S30) → Option (Bool)
  | 0, _, _, _, _, _, _, _, _ => none
  | k + 1, x0, x5, x6, x7, x141000, x141001, x141002, x141003 => if x7 < (x0.length : Int) then (if 0 ≤ x7 then ((racewaylaw15_pick.f (rd x0 x7) 5).bind fun t142 => (if t142 > 0 then (if x141003.length < 5864062014805 then ((some (x141003 ++ [(⟨wrap64 (3 + (wrap64 (2 * x7))), wrap64 (4 + (wrap64 (2 * x7))), 5⟩ : S30)] : List (S30))).bind fun y143 => (if y143.length < 5864062014805 then (if x5.length < 17592186044416 then ((some (x5 ++ [t142] : List Int)).bind fun y149 => (if y149.length < 17592186044416 then (racewaylaw15_DecompLoops.l0 k x0 (y149 ++ [t142]) (wrap64 (x6 + 1)) (wrap64 (x7 + 1)) x141000 x141001 x141002 (y143 ++ [(⟨wrap64 (4 + (wrap64 (2 * x7))), wrap64 (3 + (wrap64 (2 * x7))), 5⟩ : S30)])) else (none))) else (none)) else (none))) else (none)) else (if x141003.length < 5864062014805 then ((some (x141003 ++ [(⟨wrap64 (3 + (wrap64 (2 * x7))), wrap64 (4 + (wrap64 (2 * x7))), 5⟩ : S30)] : List (S30))).bind fun y155 => (if y155.length < 5864062014805 then (if x5.length < 17592186044416 then ((some (x5 ++ [t142] : List Int)).bind fun y161 => (if y161.length < 17592186044416 then (racewaylaw15_DecompLoops.l0 k x0 (y161 ++ [t142]) x6 (wrap64 (x7 + 1)) x141000 x141001 x141002 (y155 ++ [(⟨wrap64 (4 + (wrap64 (2 * x7))), wrap64 (3 + (wrap64 (2 * x7))), 5⟩ : S30)])) else (none))) else (none)) else (none))) else (none)))) else (none)) else ((decomp_Split.f k x141000 x141001 x141002 x141003 x5).bind fun bt167 => (if bt167.2 = 0 then (racewaylaw15_DecompLoops.j2 k x5 bt167.1 ((bt167.1.length : Int) != x6)) else (racewaylaw15_DecompLoops.j2 k x5 bt167.1 true)))
def racewaylaw15_DecompLoops.j2 : Nat → List Int → List (S36) → Bool → Option (Bool)
  | 0, _, _, _ => none
  | k + 1, x5, x9, x87 => if x87 = true then (some false) else (racewaylaw15_DecompLoops.l1 k x5 x9 0 0)
def racewaylaw15_DecompLoops.l1 : Nat → List Int → List (S36) → Int → Int → Option (Bool)
  | 0, _, _, _, _ => none
  | k + 1, x5, x9, x11, x12 => if x12 < (x9.length : Int) then (racewaylaw15_DecompLoops.l2 k x5 x9 x11 x12) else (some true)
def racewaylaw15_DecompLoops.l2 : Nat → List Int → List (S36) → Int → Int → Option (Bool)
  | 0, _, _, _, _ => none
  | k + 1, x5, x9, x11, x12 => if 0 ≤ x11 then (if x11 < (x5.length : Int) then (if (rd x5 x11) = 0 then (racewaylaw15_DecompLoops.l2 k x5 x9 (wrap64 (x11 + 2)) x12) else (if 0 ≤ x12 then (if x12 < (x9.length : Int) then (if ((rd_T36 x9 x12).f0) = 99 then (if ((rd_T36 x9 x12).f2) = (rd x5 x11) then (if (((rd_T36 x9 x12).f1).length : Int) = 2 then (if 0 < (((rd_T36 x9 x12).f1).length : Int) then (if (rd ((rd_T36 x9 x12).f1) 0) = x11 then (if 1 < (((rd_T36 x9 x12).f1).length : Int) then (if (rd ((rd_T36 x9 x12).f1) 1) = (wrap64 (x11 + 1)) then (racewaylaw15_DecompLoops.l1 k x5 x9 (wrap64 (x11 + 2)) (wrap64 (x12 + 1))) else (some false)) else (none)) else (some false)) else (none)) else (some false)) else (some false)) else (some false)) else (none)) else (none))) else (none)) else (none)
end
def racewaylaw15_DecompLoops.f (k : Nat) (l0 : List Int) : Option (Bool) := (racewaylaw15_shown.f k).bind fun t139 => (if t139 = true then (racewaylaw15_DecompLoops.j0 k l0 t139 (decide ((l0.length : Int) > 60))) else (racewaylaw15_DecompLoops.j0 k l0 t139 true))
theorem racewaylaw15_DecompLoops.mono_l : ∀ k, (∀ y0 y1 y2, LeO (racewaylaw15_DecompLoops.j0 k y0 y1 y2) (racewaylaw15_DecompLoops.j0 (k + 1) y0 y1 y2)) ∧ (∀ y0 y1 y2 y3 y4 y5 y6 y7, LeO (racewaylaw15_DecompLoops.l0 k y0 y1 y2 y3 y4 y5 y6 y7) (racewaylaw15_DecompLoops.l0 (k + 1) y0 y1 y2 y3 y4 y5 y6 y7)) ∧ (∀ y0 y1 y2, LeO (racewaylaw15_DecompLoops.j2 k y0 y1 y2) (racewaylaw15_DecompLoops.j2 (k + 1) y0 y1 y2)) ∧ (∀ y0 y1 y2 y3, LeO (racewaylaw15_DecompLoops.l1 k y0 y1 y2 y3) (racewaylaw15_DecompLoops.l1 (k + 1) y0 y1 y2 y3)) ∧ (∀ y0 y1 y2 y3, LeO (racewaylaw15_DecompLoops.l2 k y0 y1 y2 y3) (racewaylaw15_DecompLoops.l2 (k + 1) y0 y1 y2 y3))
  | 0 => ⟨fun _ _ _ r h => by simp [racewaylaw15_DecompLoops.j0] at h, fun _ _ _ _ _ _ _ _ r h => by simp [racewaylaw15_DecompLoops.l0] at h, fun _ _ _ r h => by simp [racewaylaw15_DecompLoops.j2] at h, fun _ _ _ _ r h => by simp [racewaylaw15_DecompLoops.l1] at h, fun _ _ _ _ r h => by simp [racewaylaw15_DecompLoops.l2] at h⟩
  | k + 1 => by
    obtain ⟨ih0, ih1, ih2, ih3, ih4⟩ := racewaylaw15_DecompLoops.mono_l k
    refine ⟨?_, ?_, ?_, ?_, ?_⟩
    · intro y0 y1 y2
      unfold racewaylaw15_DecompLoops.j0
      repeat' first
      | (with_reducible exact ih0 _ _ _)
      | (with_reducible exact ih1 _ _ _ _ _ _ _ _)
      | (with_reducible exact ih2 _ _ _)
      | (with_reducible exact ih3 _ _ _ _)
      | (with_reducible exact ih4 _ _ _ _)
      | (with_reducible exact decomp_Split.mono _ _ _ _ _ _)
      | (with_reducible exact racewaylaw15_shown.mono _)
      | (with_reducible exact LeO.refl _)
      | (with_reducible exact LeO.none _)
      | (with_reducible refine LeO.ite ?_ ?_)
      | (with_reducible refine LeO.bind ?_ (fun _ => ?_))
      | exact ih0 _ _ _
      | exact ih1 _ _ _ _ _ _ _ _
      | exact ih2 _ _ _
      | exact ih3 _ _ _ _
      | exact ih4 _ _ _ _
      | exact decomp_Split.mono _ _ _ _ _ _
      | exact racewaylaw15_shown.mono _
      | exact LeO.none _
      | refine LeO.ite ?_ ?_
      | refine LeO.bind ?_ (fun _ => ?_)
    · intro y0 y1 y2 y3 y4 y5 y6 y7
      unfold racewaylaw15_DecompLoops.l0
      repeat' first
      | (with_reducible exact ih0 _ _ _)
      | (with_reducible exact ih1 _ _ _ _ _ _ _ _)
      | (with_reducible exact ih2 _ _ _)
      | (with_reducible exact ih3 _ _ _ _)
      | (with_reducible exact ih4 _ _ _ _)
      | (with_reducible exact decomp_Split.mono _ _ _ _ _ _)
      | (with_reducible exact racewaylaw15_shown.mono _)
      | (with_reducible exact LeO.refl _)
      | (with_reducible exact LeO.none _)
      | (with_reducible refine LeO.ite ?_ ?_)
      | (with_reducible refine LeO.bind ?_ (fun _ => ?_))
      | exact ih0 _ _ _
      | exact ih1 _ _ _ _ _ _ _ _
      | exact ih2 _ _ _
      | exact ih3 _ _ _ _
      | exact ih4 _ _ _ _
      | exact decomp_Split.mono _ _ _ _ _ _
      | exact racewaylaw15_shown.mono _
      | exact LeO.none _
      | refine LeO.ite ?_ ?_
      | refine LeO.bind ?_ (fun _ => ?_)
    · intro y0 y1 y2
      unfold racewaylaw15_DecompLoops.j2
      repeat' first
      | (with_reducible exact ih0 _ _ _)
      | (with_reducible exact ih1 _ _ _ _ _ _ _ _)
      | (with_reducible exact ih2 _ _ _)
      | (with_reducible exact ih3 _ _ _ _)
      | (with_reducible exact ih4 _ _ _ _)
      | (with_reducible exact decomp_Split.mono _ _ _ _ _ _)
      | (with_reducible exact racewaylaw15_shown.mono _)
      | (with_reducible exact LeO.refl _)
      | (with_reducible exact LeO.none _)
      | (with_reducible refine LeO.ite ?_ ?_)
      | (with_reducible refine LeO.bind ?_ (fun _ => ?_))
      | exact ih0 _ _ _
      | exact ih1 _ _ _ _ _ _ _ _
      | exact ih2 _ _ _
      | exact ih3 _ _ _ _
      | exact ih4 _ _ _ _
      | exact decomp_Split.mono _ _ _ _ _ _
      | exact racewaylaw15_shown.mono _
      | exact LeO.none _
      | refine LeO.ite ?_ ?_
      | refine LeO.bind ?_ (fun _ => ?_)
    · intro y0 y1 y2 y3
      unfold racewaylaw15_DecompLoops.l1
      repeat' first
      | (with_reducible exact ih0 _ _ _)
      | (with_reducible exact ih1 _ _ _ _ _ _ _ _)
      | (with_reducible exact ih2 _ _ _)
      | (with_reducible exact ih3 _ _ _ _)
      | (with_reducible exact ih4 _ _ _ _)
      | (with_reducible exact decomp_Split.mono _ _ _ _ _ _)
      | (with_reducible exact racewaylaw15_shown.mono _)
      | (with_reducible exact LeO.refl _)
      | (with_reducible exact LeO.none _)
      | (with_reducible refine LeO.ite ?_ ?_)
      | (with_reducible refine LeO.bind ?_ (fun _ => ?_))
      | exact ih0 _ _ _
      | exact ih1 _ _ _ _ _ _ _ _
      | exact ih2 _ _ _
      | exact ih3 _ _ _ _
      | exact ih4 _ _ _ _
      | exact decomp_Split.mono _ _ _ _ _ _
      | exact racewaylaw15_shown.mono _
      | exact LeO.none _
      | refine LeO.ite ?_ ?_
      | refine LeO.bind ?_ (fun _ => ?_)
    · intro y0 y1 y2 y3
      unfold racewaylaw15_DecompLoops.l2
      repeat' first
      | (with_reducible exact ih0 _ _ _)
      | (with_reducible exact ih1 _ _ _ _ _ _ _ _)
      | (with_reducible exact ih2 _ _ _)
      | (with_reducible exact ih3 _ _ _ _)
      | (with_reducible exact ih4 _ _ _ _)
      | (with_reducible exact decomp_Split.mono _ _ _ _ _ _)
      | (with_reducible exact racewaylaw15_shown.mono _)
      | (with_reducible exact LeO.refl _)
      | (with_reducible exact LeO.none _)
      | (with_reducible refine LeO.ite ?_ ?_)
      | (with_reducible refine LeO.bind ?_ (fun _ => ?_))
      | exact ih0 _ _ _
      | exact ih1 _ _ _ _ _ _ _ _
      | exact ih2 _ _ _
      | exact ih3 _ _ _ _
      | exact ih4 _ _ _ _
      | exact decomp_Split.mono _ _ _ _ _ _
      | exact racewaylaw15_shown.mono _
      | exact LeO.none _
      | refine LeO.ite ?_ ?_
      | refine LeO.bind ?_ (fun _ => ?_)
theorem racewaylaw15_DecompLoops.mono : ∀ a0 k, LeO (racewaylaw15_DecompLoops.f k a0) (racewaylaw15_DecompLoops.f (k + 1) a0) := by
  intro a0 k
  obtain ⟨ih0, ih1, ih2, ih3, ih4⟩ := racewaylaw15_DecompLoops.mono_l k
  unfold racewaylaw15_DecompLoops.f
  repeat' first
      | (with_reducible exact ih0 _ _ _)
      | (with_reducible exact ih1 _ _ _ _ _ _ _ _)
      | (with_reducible exact ih2 _ _ _)
      | (with_reducible exact ih3 _ _ _ _)
      | (with_reducible exact ih4 _ _ _ _)
      | (with_reducible exact decomp_Split.mono _ _ _ _ _ _)
      | (with_reducible exact racewaylaw15_shown.mono _)
      | (with_reducible exact LeO.refl _)
      | (with_reducible exact LeO.none _)
      | (with_reducible refine LeO.ite ?_ ?_)
      | (with_reducible refine LeO.bind ?_ (fun _ => ?_))
      | exact ih0 _ _ _
      | exact ih1 _ _ _ _ _ _ _ _
      | exact ih2 _ _ _
      | exact ih3 _ _ _ _
      | exact ih4 _ _ _ _
      | exact decomp_Split.mono _ _ _ _ _ _
      | exact racewaylaw15_shown.mono _
      | exact LeO.none _
      | refine LeO.ite ?_ ?_
      | refine LeO.bind ?_ (fun _ => ?_)
set_option maxHeartbeats 8000000 in
set_option maxRecDepth 100000 in
theorem racewaylaw15_DecompLoops.calls (k : Nat) (A0 : Option Addr) (c0 : Nat) (l0 : List Int) (r : Bool) (w : World) (hr0 : Kd.C (Kd.int .i64) w A0 l0.length l0) (hc0 : l0.length ≤ c0) (h : racewaylaw15_DecompLoops.f k l0 = some r) (hrT_ : Aside0 (r = true)) :
    Calls Try.prog 3 #[.slice A0 l0.length c0] w fun e w' => e = .returned (.bool r) ∧ Below w.heap.size w w' := by
  have hu26 := Try.underlying26
  have hu30 := Try.underlying30
  have HR0 := Aside0.mk hr0
  have HC0 := Aside0.mk hc0
  clear hr0 hc0
  have HB := Aside0.mk (Below.refl w.heap.size w)
  have H : ((racewaylaw15_shown.f k).bind fun t139 => (if t139 = true then (racewaylaw15_DecompLoops.j0 k l0 t139 (decide ((l0.length : Int) > 60))) else (racewaylaw15_DecompLoops.j0 k l0 t139 true))) = some r := h
  clear h
  replace H := Option.bind_eq_some_iff.mp H
  obtain ⟨t139, A20, H⟩ := H
  replace H : (if t139 = true then (racewaylaw15_DecompLoops.j0 k l0 t139 (decide ((l0.length : Int) > 60))) else (racewaylaw15_DecompLoops.j0 k l0 t139 true)) = some r := H
  have A2 := Aside0.mk A20
  clear A20
  have HC3 := Aside0.mk H
  clear H
  go_enter Try.func3, Try.ntmps3
  go_upto_region 2 with (first | (go_at_call 8; (with_reducible refine (racewaylaw15_shown.calls k  t139 _ A2.out).mono ?_); rintro e w4 ⟨rfl, hb⟩; have n0_ := Aside0.mk (below_step (by repeat (first | (with_reducible first | exact HB.out | apply below_alloc | apply pw_below_drewN | apply below_drew1) | exact HB.out)) hb); clear HB; have HB := n0_; clear n0_; (try clear hb); (try clear hb2); (try clear hk); (try clear hi)))
  repeat (go_quiet (first | (go_at_call 8; (with_reducible refine (racewaylaw15_shown.calls k  t139 _ A2.out).mono ?_); rintro e w4 ⟨rfl, hb⟩; have n0_ := Aside0.mk (below_step (by repeat (first | (with_reducible first | exact HB.out | apply below_alloc | apply pw_below_drewN | apply below_drew1) | exact HB.out)) hb); clear HB; have HB := n0_; clear n0_; (try clear hb); (try clear hb2); (try clear hk); (try clear hi))); go_upto_region 2 with (first | (go_at_call 8; (with_reducible refine (racewaylaw15_shown.calls k  t139 _ A2.out).mono ?_); rintro e w4 ⟨rfl, hb⟩; have n0_ := Aside0.mk (below_step (by repeat (first | (with_reducible first | exact HB.out | apply below_alloc | apply pw_below_drewN | apply below_drew1) | exact HB.out)) hb); clear HB; have HB := n0_; clear n0_; (try clear hb); (try clear hb2); (try clear hk); (try clear hi))))
  (try simp only [Act.put, List.setIfInBounds_toArray, List.set_cons_zero, List.set_cons_succ])
  go_cut [20] (fun v20 wc => ∃ (kq : Nat) (x20_2 : Bool), v20 = .bool x20_2 ∧ Aside0 (racewaylaw15_DecompLoops.j0 kq l0 t139 x20_2 = some r) ∧ Aside0 (kq ≤ k) ∧ Aside0 (Below w.heap.size w wc))
  case first =>
    have H := HC3.out
    clear HC3
    by_cases c5 : t139 = true
    · subst c5
      have H1 : (racewaylaw15_DecompLoops.j0 k l0 true (decide ((l0.length : Int) > 60))) = some r := by rw [if_pos rfl] at H; exact H
      clear H
      have H := H1
      clear H1
      as_aux_lemma =>
        have H' := Aside0.mk H
        clear H
        go_wp2
        repeat (go_quiet (fail); try go_wp2)
        go_meet
        case rel => exact ⟨_, (decide ((l0.length : Int) > 60)), (by first | rfl | (simp; done) | (simp [*]; done)), H', ⟨by first | omega | exact Nat.le_refl _⟩, ⟨by repeat (first | (with_reducible first | exact HB.out | apply below_alloc | apply pw_below_drewN | apply below_drew1) | exact HB.out)⟩⟩
    · replace c5 := Bool.eq_false_iff.mpr c5
      subst c5
      have H1 : (racewaylaw15_DecompLoops.j0 k l0 false true) = some r := by rw [if_neg (show ¬ (false = true) by decide)] at H; exact H
      clear H
      have H := H1
      clear H1
      as_aux_lemma =>
        have H' := Aside0.mk H
        clear H
        go_wp2
        repeat (go_quiet (fail); try go_wp2)
        go_meet
        case rel => exact ⟨_, (true), (by first | rfl | (simp; done) | (simp [*]; done)), H', ⟨by first | omega | exact Nat.le_refl _⟩, ⟨by repeat (first | (with_reducible first | exact HB.out | apply below_alloc | apply pw_below_drewN | apply below_drew1) | exact HB.out)⟩⟩
  case rest =>
    clear HC3
    try clear p2
    try clear c3
    try clear c5
    obtain ⟨kq, x20_2, rfl, HA, HJ2, HB⟩ := hcut
    cases kq with
    | zero => exact absurd HA.out (by simp [racewaylaw15_DecompLoops.j0])
    | succ kj2 =>
      have H := HA.out
      clear HA
      simp only [racewaylaw15_DecompLoops.j0] at H
      by_cases c6 : x20_2 = true
      · subst c6
        have H1 : (some t139) = some r := by rw [if_pos rfl] at H; exact H
        clear H
        have H := H1
        clear H1
        as_aux_lemma =>
          obtain rfl := Option.some.inj H
          go_wp2
          repeat (go_quiet (fail); try go_wp2)
          go_ret
          exact ⟨by first | rfl | (simp [errW_none, errW_some] <;> rfl) | (simp [*, errW_none, errW_some] <;> rfl), by repeat (first | (with_reducible first | exact HB.out | apply below_alloc | apply pw_below_drewN | apply below_drew1) | exact HB.out)⟩
      · replace c6 := Bool.eq_false_iff.mpr c6
        subst c6
        have H1 : (racewaylaw15_DecompLoops.l0 kj2 l0 ([] : List Int) 0 0 (wrap64 (2 + (wrap64 (2 * (l0.length : Int))))) 1 2 ([] : List (S30))) = some r := by rw [if_neg (show ¬ (false = true) by decide)] at H; exact H
        clear H
        have H := H1
        clear H1
        have H' := Aside0.mk H
        clear H
        go_wp2_with (first | ((with_reducible refine gate_dst (N := 4) rfl ?_); (try (refine gate_guard (by rfl) ?_; dsimp only)); refine box_event ?hg (N := 4) ?hd (cs := #[.int .i64 0, .int .i64 0, .int .i64 0, .slice none 0 0]) (t := 26) ?hr ?_; (case hd => rfl); (case hg => rfl); (case hr => first | (go_simp; done) | (go_simp; rfl)); intro gb140 hg w7 hbox hb; have n0_ := Aside0.mk (below_step (by repeat (first | (with_reducible first | exact HB.out | apply below_alloc | apply pw_below_drewN | apply below_drew1) | exact HB.out)) hb); have n1_ := Aside0.mk (hbox); have n2_ := Aside0.mk ((by rw [hg]; exact (below_size (by repeat (first | (with_reducible first | exact HB.out | apply below_alloc | apply pw_below_drewN | apply below_drew1) | exact HB.out))) : w.heap.size ≤ gb140)); have n3_ := Aside0.mk ((by rw [hg]; exact (below_size (by repeat (first | (with_reducible first | exact HB.out | apply below_alloc | apply pw_below_drewN | apply below_drew1) | exact HB.out))) : w.heap.size ≤ gb140)); clear HB; have HB := n0_; have BK140 := n1_; have GW140 := n2_; have GE140 := n3_; clear n0_ n1_ n2_ n3_; clear hb hbox hg; have hcz8_0 : w7.cell? ⟨gb140, 0, none⟩ = some (.int .i64 0) := (blk_cell BK140.out 0).trans rfl; have hcz8_1 : w7.cell? ⟨gb140, 1, none⟩ = some (.int .i64 0) := (blk_cell BK140.out 1).trans rfl; have hcz8_2 : w7.cell? ⟨gb140, 2, none⟩ = some (.int .i64 0) := (blk_cell BK140.out 2).trans rfl; have hcz8_3 : w7.cell? ⟨gb140, 3, none⟩ = some (.slice none 0 0) := (blk_cell BK140.out 3).trans rfl; have hfz8_0 := blk_frozen BK140.out 0; have hfz8_1 := blk_frozen BK140.out 1; have hfz8_2 := blk_frozen BK140.out 2; have hfz8_3 := blk_frozen BK140.out 3))
        repeat (go_quiet (first | ((with_reducible refine gate_dst (N := 4) rfl ?_); (try (refine gate_guard (by rfl) ?_; dsimp only)); refine box_event ?hg (N := 4) ?hd (cs := #[.int .i64 0, .int .i64 0, .int .i64 0, .slice none 0 0]) (t := 26) ?hr ?_; (case hd => rfl); (case hg => rfl); (case hr => first | (go_simp; done) | (go_simp; rfl)); intro gb140 hg w7 hbox hb; have n0_ := Aside0.mk (below_step (by repeat (first | (with_reducible first | exact HB.out | apply below_alloc | apply pw_below_drewN | apply below_drew1) | exact HB.out)) hb); have n1_ := Aside0.mk (hbox); have n2_ := Aside0.mk ((by rw [hg]; exact (below_size (by repeat (first | (with_reducible first | exact HB.out | apply below_alloc | apply pw_below_drewN | apply below_drew1) | exact HB.out))) : w.heap.size ≤ gb140)); have n3_ := Aside0.mk ((by rw [hg]; exact (below_size (by repeat (first | (with_reducible first | exact HB.out | apply below_alloc | apply pw_below_drewN | apply below_drew1) | exact HB.out))) : w.heap.size ≤ gb140)); clear HB; have HB := n0_; have BK140 := n1_; have GW140 := n2_; have GE140 := n3_; clear n0_ n1_ n2_ n3_; clear hb hbox hg; have hcz8_0 : w7.cell? ⟨gb140, 0, none⟩ = some (.int .i64 0) := (blk_cell BK140.out 0).trans rfl; have hcz8_1 : w7.cell? ⟨gb140, 1, none⟩ = some (.int .i64 0) := (blk_cell BK140.out 1).trans rfl; have hcz8_2 : w7.cell? ⟨gb140, 2, none⟩ = some (.int .i64 0) := (blk_cell BK140.out 2).trans rfl; have hcz8_3 : w7.cell? ⟨gb140, 3, none⟩ = some (.slice none 0 0) := (blk_cell BK140.out 3).trans rfl; have hfz8_0 := blk_frozen BK140.out 0; have hfz8_1 := blk_frozen BK140.out 1; have hfz8_2 := blk_frozen BK140.out 2; have hfz8_3 := blk_frozen BK140.out 3)); try go_wp2_with (first | ((with_reducible refine gate_dst (N := 4) rfl ?_); (try (refine gate_guard (by rfl) ?_; dsimp only)); refine box_event ?hg (N := 4) ?hd (cs := #[.int .i64 0, .int .i64 0, .int .i64 0, .slice none 0 0]) (t := 26) ?hr ?_; (case hd => rfl); (case hg => rfl); (case hr => first | (go_simp; done) | (go_simp; rfl)); intro gb140 hg w7 hbox hb; have n0_ := Aside0.mk (below_step (by repeat (first | (with_reducible first | exact HB.out | apply below_alloc | apply pw_below_drewN | apply below_drew1) | exact HB.out)) hb); have n1_ := Aside0.mk (hbox); have n2_ := Aside0.mk ((by rw [hg]; exact (below_size (by repeat (first | (with_reducible first | exact HB.out | apply below_alloc | apply pw_below_drewN | apply below_drew1) | exact HB.out))) : w.heap.size ≤ gb140)); have n3_ := Aside0.mk ((by rw [hg]; exact (below_size (by repeat (first | (with_reducible first | exact HB.out | apply below_alloc | apply pw_below_drewN | apply below_drew1) | exact HB.out))) : w.heap.size ≤ gb140)); clear HB; have HB := n0_; have BK140 := n1_; have GW140 := n2_; have GE140 := n3_; clear n0_ n1_ n2_ n3_; clear hb hbox hg; have hcz8_0 : w7.cell? ⟨gb140, 0, none⟩ = some (.int .i64 0) := (blk_cell BK140.out 0).trans rfl; have hcz8_1 : w7.cell? ⟨gb140, 1, none⟩ = some (.int .i64 0) := (blk_cell BK140.out 1).trans rfl; have hcz8_2 : w7.cell? ⟨gb140, 2, none⟩ = some (.int .i64 0) := (blk_cell BK140.out 2).trans rfl; have hcz8_3 : w7.cell? ⟨gb140, 3, none⟩ = some (.slice none 0 0) := (blk_cell BK140.out 3).trans rfl; have hfz8_0 := blk_frozen BK140.out 0; have hfz8_1 := blk_frozen BK140.out 1; have hfz8_2 := blk_frozen BK140.out 2; have hfz8_3 := blk_frozen BK140.out 3)))
        go_loopg [5, 6, 7] kj2 (fun kq v5 v6 v7 w' => ∃ (x5_2 : List Int) (x6_2 : Int) (x7_2 : Int) (x141003_2 : List (S30)) (u141003 : Value), v6 = .int .i64 x6_2 ∧ v7 = .int .i64 x7_2 ∧ Aside0 (racewaylaw15_DecompLoops.l0 kq l0 x5_2 x6_2 x7_2 (wrap64 (2 + (wrap64 (2 * (l0.length : Int))))) 1 2 x141003_2 = some r) ∧ Aside0 (kq ≤ kj2) ∧ Aside0 (Kd.R (Kd.int .i64) 2 w' w.heap.size (fun _ => True) v5 x5_2) ∧ Aside0 (Kd.R k30 30 w' w.heap.size (fun _ => True) u141003 x141003_2) ∧ Aside0 (w'.heap[gb140]? = some (.cells #[.int .i64 (wrap64 (2 + (wrap64 (2 * (l0.length : Int))))), .int .i64 1, .int .i64 2, u141003] 26 (0, 0))) ∧ Aside0 (Below w.heap.size w w'))
        case atStart => exact ⟨(([] : List Int)), (0), (0), (([] : List (S30))), (.slice none 0 0), (by first | rfl | (simp; done) | (simp [*]; done)), (by first | rfl | (simp; done) | (simp [*]; done)), H', ⟨Nat.le_refl _⟩, ⟨by first | exact Kd.R_nil _ _ _ _ _ | exact Kd.N_nil _ _ _ _ _ | exact Kd.V_nil _ _ _ _ _ | exact Kd.Q_nil _ _ _ _ _ | exact Kd.S_nil _ _ _ _ _⟩, ⟨by first | exact Kd.R_nil _ _ _ _ _ | exact Kd.N_nil _ _ _ _ _ | exact Kd.V_nil _ _ _ _ _ | exact Kd.Q_nil _ _ _ _ _ | exact Kd.S_nil _ _ _ _ _⟩, ⟨by (with_reducible repeat (first | refine blk_drewN ?_ _ | refine blk_drew ?_ | refine blk_alloc ?_ _)); refine blk_put (cs := #[.int .i64 (wrap64 (2 + (wrap64 (2 * (l0.length : Int))))), .int .i64 1, .int .i64 2, .slice none 0 0]) ?_ 3 _ rfl; (with_reducible repeat (first | refine blk_drewN ?_ _ | refine blk_drew ?_ | refine blk_alloc ?_ _)); refine blk_put (cs := #[.int .i64 (wrap64 (2 + (wrap64 (2 * (l0.length : Int))))), .int .i64 1, .int .i64 0, .slice none 0 0]) ?_ 2 _ rfl; (with_reducible repeat (first | refine blk_drewN ?_ _ | refine blk_drew ?_ | refine blk_alloc ?_ _)); refine blk_put (cs := #[.int .i64 (wrap64 (2 + (wrap64 (2 * (l0.length : Int))))), .int .i64 0, .int .i64 0, .slice none 0 0]) ?_ 1 _ rfl; (with_reducible repeat (first | refine blk_drewN ?_ _ | refine blk_drew ?_ | refine blk_alloc ?_ _)); refine blk_put (cs := #[.int .i64 0, .int .i64 0, .int .i64 0, .slice none 0 0]) ?_ 0 _ rfl; (with_reducible repeat (first | refine blk_drewN ?_ _ | refine blk_drew ?_ | refine blk_alloc ?_ _)); exact BK140.out⟩, ⟨by repeat (first | (with_reducible first | exact HB.out | apply below_alloc | apply pw_below_drewN | apply below_drew1 | refine below_set ?_ GE140.out) | exact HB.out)⟩⟩
        case round =>
          clear H'
          try clear p2
          try clear c3
          try clear c5
          try clear c6
          try clear p6
          try clear hcz8_0
          try clear hcz8_1
          try clear hcz8_2
          try clear hcz8_3
          try clear hfz8_0
          try clear hfz8_1
          try clear hfz8_2
          try clear hfz8_3
          try clear p2
          obtain ⟨x5_2, x6_2, x7_2, x141003_2, u141003, rfl, rfl, HA, HK2, HO_5, HO_141003, BK140, HB⟩ := hrel
          cases gk with
          | zero => exact absurd HA.out (by simp [racewaylaw15_DecompLoops.l0])
          | succ k2 =>
            have H := HA.out
            clear HA
            simp only [racewaylaw15_DecompLoops.l0] at H
            by_cases c9 : x7_2 < (l0.length : Int)
            · rw [if_pos c9] at H
              have c9b0 : decide (x7_2 < (l0.length : Int)) = true := decide_eq_true c9
              clear c9
              by_cases c10 : 0 ≤ x7_2
              · rw [if_pos c10] at H
                have c10b0 : decide (0 ≤ x7_2) = true := decide_eq_true c10
                clear c10
                replace H := Option.bind_eq_some_iff.mp H
                obtain ⟨t142, A110, H⟩ := H
                replace H : (if t142 > 0 then (if x141003_2.length < 5864062014805 then ((some (x141003_2 ++ [(⟨wrap64 (3 + (wrap64 (2 * x7_2))), wrap64 (4 + (wrap64 (2 * x7_2))), 5⟩ : S30)] : List (S30))).bind fun y143 => (if y143.length < 5864062014805 then (if x5_2.length < 17592186044416 then ((some (x5_2 ++ [t142] : List Int)).bind fun y149 => (if y149.length < 17592186044416 then (racewaylaw15_DecompLoops.l0 k2 l0 (y149 ++ [t142]) (wrap64 (x6_2 + 1)) (wrap64 (x7_2 + 1)) (wrap64 (2 + (wrap64 (2 * (l0.length : Int))))) 1 2 (y143 ++ [(⟨wrap64 (4 + (wrap64 (2 * x7_2))), wrap64 (3 + (wrap64 (2 * x7_2))), 5⟩ : S30)])) else (none))) else (none)) else (none))) else (none)) else (if x141003_2.length < 5864062014805 then ((some (x141003_2 ++ [(⟨wrap64 (3 + (wrap64 (2 * x7_2))), wrap64 (4 + (wrap64 (2 * x7_2))), 5⟩ : S30)] : List (S30))).bind fun y155 => (if y155.length < 5864062014805 then (if x5_2.length < 17592186044416 then ((some (x5_2 ++ [t142] : List Int)).bind fun y161 => (if y161.length < 17592186044416 then (racewaylaw15_DecompLoops.l0 k2 l0 (y161 ++ [t142]) x6_2 (wrap64 (x7_2 + 1)) (wrap64 (2 + (wrap64 (2 * (l0.length : Int))))) 1 2 (y155 ++ [(⟨wrap64 (4 + (wrap64 (2 * x7_2))), wrap64 (3 + (wrap64 (2 * x7_2))), 5⟩ : S30)])) else (none))) else (none)) else (none))) else (none))) = some r := H
                have A11 := Aside0.mk A110
                clear A110
                by_cases c12 : t142 > 0
                · rw [if_pos c12] at H
                  have c12b0 : decide (0 < t142) = true := decide_eq_true c12
                  clear c12
                  by_cases c13 : x141003_2.length < 5864062014805
                  · rw [if_pos c13] at H
                    have LMc13 := Aside0.mk c13
                    clear c13
                    obtain ⟨y143, hy143⟩ : ∃ y_ : List (S30), y_ = (x141003_2 ++ [(⟨wrap64 (3 + (wrap64 (2 * x7_2))), wrap64 (4 + (wrap64 (2 * x7_2))), 5⟩ : S30)]) := ⟨_, rfl⟩
                    replace H : (if y143.length < 5864062014805 then (if x5_2.length < 17592186044416 then ((some (x5_2 ++ [t142] : List Int)).bind fun y149 => (if y149.length < 17592186044416 then (racewaylaw15_DecompLoops.l0 k2 l0 (y149 ++ [t142]) (wrap64 (x6_2 + 1)) (wrap64 (x7_2 + 1)) (wrap64 (2 + (wrap64 (2 * (l0.length : Int))))) 1 2 (y143 ++ [(⟨wrap64 (4 + (wrap64 (2 * x7_2))), wrap64 (3 + (wrap64 (2 * x7_2))), 5⟩ : S30)])) else (none))) else (none)) else (none)) = some r := by first | (rw [hy143]; with_reducible exact H) | (have H2_ := (Option.bind_some _ _).symm.trans H; rw [hy143]; with_reducible exact H2_) | (have H2_ := (Option.bind_some _ _).symm.trans H; with_reducible exact H2_) | with_reducible exact H | (rw [hy143]; exact H) | exact H
                    have Ny143 := Aside0.mk hy143
                    clear hy143
                    by_cases c14 : y143.length < 5864062014805
                    · rw [if_pos c14] at H
                      have LMc14 := Aside0.mk c14
                      clear c14
                      obtain ⟨y146, hy146⟩ : ∃ y_ : List (S30), y_ = (y143 ++ [(⟨wrap64 (4 + (wrap64 (2 * x7_2))), wrap64 (3 + (wrap64 (2 * x7_2))), 5⟩ : S30)]) := ⟨_, rfl⟩
                      replace H : (if x5_2.length < 17592186044416 then ((some (x5_2 ++ [t142] : List Int)).bind fun y149 => (if y149.length < 17592186044416 then (racewaylaw15_DecompLoops.l0 k2 l0 (y149 ++ [t142]) (wrap64 (x6_2 + 1)) (wrap64 (x7_2 + 1)) (wrap64 (2 + (wrap64 (2 * (l0.length : Int))))) 1 2 y146) else (none))) else (none)) = some r := by first | (rw [hy146]; with_reducible exact H) | (have H2_ := (Option.bind_some _ _).symm.trans H; rw [hy146]; with_reducible exact H2_) | (have H2_ := (Option.bind_some _ _).symm.trans H; with_reducible exact H2_) | with_reducible exact H | (rw [hy146]; exact H) | exact H
                      have Ny146 := Aside0.mk hy146
                      clear hy146
                      by_cases c15 : x5_2.length < 17592186044416
                      · rw [if_pos c15] at H
                        have LMc15 := Aside0.mk c15
                        clear c15
                        obtain ⟨y149, hy149⟩ : ∃ y_ : List Int, y_ = (x5_2 ++ [t142]) := ⟨_, rfl⟩
                        replace H : (if y149.length < 17592186044416 then (racewaylaw15_DecompLoops.l0 k2 l0 (y149 ++ [t142]) (wrap64 (x6_2 + 1)) (wrap64 (x7_2 + 1)) (wrap64 (2 + (wrap64 (2 * (l0.length : Int))))) 1 2 y146) else (none)) = some r := by first | (rw [hy149]; with_reducible exact H) | (have H2_ := (Option.bind_some _ _).symm.trans H; rw [hy149]; with_reducible exact H2_) | (have H2_ := (Option.bind_some _ _).symm.trans H; with_reducible exact H2_) | with_reducible exact H | (rw [hy149]; exact H) | exact H
                        have Ny149 := Aside0.mk hy149
                        clear hy149
                        by_cases c16 : y149.length < 17592186044416
                        · rw [if_pos c16] at H
                          have LMc16 := Aside0.mk c16
                          clear c16
                          obtain ⟨y152, hy152⟩ : ∃ y_ : List Int, y_ = (y149 ++ [t142]) := ⟨_, rfl⟩
                          replace H : (racewaylaw15_DecompLoops.l0 k2 l0 y152 (wrap64 (x6_2 + 1)) (wrap64 (x7_2 + 1)) (wrap64 (2 + (wrap64 (2 * (l0.length : Int))))) 1 2 y146) = some r := by first | (rw [hy152]; with_reducible exact H) | (have H2_ := (Option.bind_some _ _).symm.trans H; rw [hy152]; with_reducible exact H2_) | (have H2_ := (Option.bind_some _ _).symm.trans H; with_reducible exact H2_) | with_reducible exact H | (rw [hy152]; exact H) | exact H
                          have Ny152 := Aside0.mk hy152
                          clear hy152
                          as_aux_lemma =>
                            have H' := Aside0.mk H
                            clear H
                            have p141 : 0 ≤ (x7_2 : Int) := of_decide_eq_true (by first | (with_reducible assumption) | assumption)
                            have q141 : x7_2 < (l0.length : Int) := of_decide_eq_true (by first | (with_reducible assumption) | assumption)
                            obtain ⟨ad141, e141, hx141_0⟩ := Kd.at_int HR0.out x7_2 p141 q141
                            cases e141
                            replace hx141_0 := (HB.out.cell (World.block_lt_of_cell? w _ hx141_0)).trans hx141_0
                            replace p141 := eq_true p141
                            replace q141 := eq_true q141
                            go_wp2_with (first | (go_at_call 9; (with_reducible refine (racewaylaw15_pick.calls (rd l0 x7_2) 5 t142 _ A11.out).mono ?_); rintro e w' ⟨rfl, ⟨nd, rfl⟩⟩; (try first | exact ⟨rfl, _, World.drewN_drewN _ _ _⟩ | exact ⟨rfl, _, Eq.trans (World.drewN_drewN _ _ _) (congrArg (World.drewN _) (Nat.add_assoc _ _ _))⟩); have hcz17_0 : wr.cell? ⟨gb140, 0, none⟩ = some (.int .i64 (wrap64 (2 + (wrap64 (2 * (l0.length : Int)))))) := (blk_cell BK140.out 0).trans rfl; have hcz17_1 : wr.cell? ⟨gb140, 1, none⟩ = some (.int .i64 1) := (blk_cell BK140.out 1).trans rfl; have hcz17_2 : wr.cell? ⟨gb140, 2, none⟩ = some (.int .i64 2) := (blk_cell BK140.out 2).trans rfl; have hcz17_3 : wr.cell? ⟨gb140, 3, none⟩ = some (u141003) := (blk_cell BK140.out 3).trans rfl; have hfz17_0 := blk_frozen BK140.out 0; have hfz17_1 := blk_frozen BK140.out 1; have hfz17_2 := blk_frozen BK140.out 2; have hfz17_3 := blk_frozen BK140.out 3) | ((with_reducible refine gate_builtin (b := .append) (xs := #[.tmp 43, .tmp 51]) rfl ?_); (try (refine gate_guard (by rfl) ?_; dsimp only)); at_builtin; refine Kd.R_append k30 (w0 := w) w.heap.size rfl (.tmp 43) (.tmp 51) 24 30 (.agg #[(.int .i64 0), (.int .i64 0), (.int .i64 0)]) 24 rfl Try.underlying24 info30 rfl (by decide) (by omega) u141003 x141003_2 (⟨wrap64 (3 + (wrap64 (2 * x7_2))), wrap64 (4 + (wrap64 (2 * x7_2))), 5⟩ : S30) [.int .i64 (wrap64 (3 + (wrap64 (2 * x7_2)))), .int .i64 (wrap64 (4 + (wrap64 (2 * x7_2)))), .int .i64 5] (fun _ => True) (fun _ => False) rfl rfl ?aP (fun _ hk => hk.elim) ?aF ?aO ?aB ?aS ?aL ?_; (case aP => exact k30_mkM _ _ _ (⟨wrap64 (3 + (wrap64 (2 * x7_2))), wrap64 (4 + (wrap64 (2 * x7_2))), 5⟩ : S30)); (case aB => exact (by repeat (first | (with_reducible first | exact HB.out | apply below_alloc | apply pw_below_drewN | apply below_drew1 | refine below_set ?_ GE140.out) | exact HB.out))); (case aF => exact (fun _ _ => trivial)); (case aO => exact (by (with_reducible repeat (first | apply Kd.R_alloc | apply Kd.R_drewN | apply Kd.R_drew)); exact HO_141003.out)); (case aS => exact (below_size (by repeat (first | (with_reducible first | exact HB.out | apply below_alloc | apply pw_below_drewN | apply below_drew1 | refine below_set ?_ GE140.out) | exact HB.out)))); (case aL => have := LMc13.out; omega); intro v144 w18 ho hb hg hat; rw [← Ny143.out] at ho; have n0_ := Aside0.mk (Kd.R_over' (by (with_reducible repeat (first | apply Kd.R_alloc | apply Kd.R_drewN | apply Kd.R_drew)); exact HO_5.out) (Kd.R_typed (by (with_reducible repeat (first | apply Kd.R_alloc | apply Kd.R_drewN | apply Kd.R_drew)); exact HO_141003.out)) (by decide) hg); have n1_ := Aside0.mk (blk_grown (g := gb140) (o := .cells #[.int .i64 (wrap64 (2 + (wrap64 (2 * (l0.length : Int))))), .int .i64 1, .int .i64 2, u141003] 26 (0, 0)) (by (with_reducible repeat (first | refine blk_drewN ?_ _ | refine blk_drew ?_ | refine blk_alloc ?_ _)); exact BK140.out) hg (Kd.R_ne HO_141003.out BK140.out (by decide))); have n2_ := Aside0.mk (hb); have n3_ := Aside0.mk (ho); clear HO_5; clear BK140; clear HB; clear HO_141003; have HO_5 := n0_; have BK140 := n1_; have HB := n2_; have HO145 := n3_; clear n0_ n1_ n2_ n3_; clear ho hb hg hat; obtain ⟨Ao19, co19, eo19⟩ := Kd.R_slice HO145.out; subst eo19; have hcz20_0 : w18.cell? ⟨gb140, 0, none⟩ = some (.int .i64 (wrap64 (2 + (wrap64 (2 * (l0.length : Int)))))) := (blk_cell BK140.out 0).trans rfl; have hcz20_1 : w18.cell? ⟨gb140, 1, none⟩ = some (.int .i64 1) := (blk_cell BK140.out 1).trans rfl; have hcz20_2 : w18.cell? ⟨gb140, 2, none⟩ = some (.int .i64 2) := (blk_cell BK140.out 2).trans rfl; have hcz20_3 : w18.cell? ⟨gb140, 3, none⟩ = some (u141003) := (blk_cell BK140.out 3).trans rfl; have hfz20_0 := blk_frozen BK140.out 0; have hfz20_1 := blk_frozen BK140.out 1; have hfz20_2 := blk_frozen BK140.out 2; have hfz20_3 := blk_frozen BK140.out 3) | ((with_reducible refine gate_builtin (b := .append) (xs := #[.tmp 55, .tmp 63]) rfl ?_); (try (refine gate_guard (by rfl) ?_; dsimp only)); at_builtin; refine Kd.R_append k30 (w0 := w) w.heap.size rfl (.tmp 55) (.tmp 63) 24 30 (.agg #[(.int .i64 0), (.int .i64 0), (.int .i64 0)]) 24 rfl Try.underlying24 info30 rfl (by decide) (by omega) (.slice Ao19 y143.length co19) y143 (⟨wrap64 (4 + (wrap64 (2 * x7_2))), wrap64 (3 + (wrap64 (2 * x7_2))), 5⟩ : S30) [.int .i64 (wrap64 (4 + (wrap64 (2 * x7_2)))), .int .i64 (wrap64 (3 + (wrap64 (2 * x7_2)))), .int .i64 5] (fun _ => True) (fun _ => False) rfl (by first | (go_simp; done) | (go_simp; rfl)) ?aP (fun _ hk => hk.elim) ?aF ?aO ?aB ?aS ?aL ?_; (case aP => exact k30_mkM _ _ _ (⟨wrap64 (4 + (wrap64 (2 * x7_2))), wrap64 (3 + (wrap64 (2 * x7_2))), 5⟩ : S30)); (case aB => exact (by repeat (first | (with_reducible first | exact HB.out | apply below_alloc | apply pw_below_drewN | apply below_drew1 | refine below_set ?_ GE140.out) | exact HB.out))); (case aF => exact (fun _ _ => trivial)); (case aO => exact (by (with_reducible repeat (first | apply Kd.R_alloc | apply Kd.R_drewN | apply Kd.R_drew)); exact Kd.R_mono (Kd.R_far (p := ⟨gb140, 3, none⟩) (Kd.R_types HO145.out BK140.out (by decide)) (fun _ hk => hk.2) (.slice Ao19 y143.length co19)) (fun _ hk => trivial))); (case aS => exact (below_size (by repeat (first | (with_reducible first | exact HB.out | apply below_alloc | apply pw_below_drewN | apply below_drew1 | refine below_set ?_ GE140.out) | exact HB.out)))); (case aL => have := LMc14.out; omega); intro v147 w21 ho hb hg hat; rw [← Ny146.out] at ho; have n0_ := Aside0.mk (Kd.R_over' (by (with_reducible repeat (first | apply Kd.R_alloc | apply Kd.R_drewN | apply Kd.R_drew)); exact (Kd.R_mono (Kd.R_far (p := ⟨gb140, 3, none⟩) (Kd.R_types HO_5.out BK140.out (by decide)) (fun _ hk => hk.2) (.slice Ao19 y143.length co19)) (fun _ h_ => h_.1))) (Kd.R_typed (by (with_reducible repeat (first | apply Kd.R_alloc | apply Kd.R_drewN | apply Kd.R_drew)); exact (Kd.R_mono (Kd.R_far (p := ⟨gb140, 3, none⟩) (Kd.R_types HO145.out BK140.out (by decide)) (fun _ hk => hk.2) (.slice Ao19 y143.length co19)) (fun _ h_ => h_.1)))) (by decide) hg); have n1_ := Aside0.mk (blk_grown (g := gb140) (o := .cells #[.int .i64 (wrap64 (2 + (wrap64 (2 * (l0.length : Int))))), .int .i64 1, .int .i64 2, .slice Ao19 y143.length co19] 26 (0, 0)) (by (with_reducible repeat (first | refine blk_drewN ?_ _ | refine blk_drew ?_ | refine blk_alloc ?_ _)); refine blk_put (cs := #[.int .i64 (wrap64 (2 + (wrap64 (2 * (l0.length : Int))))), .int .i64 1, .int .i64 2, u141003]) ?_ 3 _ rfl; (with_reducible repeat (first | refine blk_drewN ?_ _ | refine blk_drew ?_ | refine blk_alloc ?_ _)); exact BK140.out) hg (Kd.R_ne HO145.out BK140.out (by decide))); have n2_ := Aside0.mk (hb); have n3_ := Aside0.mk (ho); clear HO_5; clear BK140; clear HB; clear HO145; have HO_5 := n0_; have BK140 := n1_; have HB := n2_; have HO148 := n3_; clear n0_ n1_ n2_ n3_; clear ho hb hg hat; obtain ⟨Ao22, co22, eo22⟩ := Kd.R_slice HO148.out; subst eo22; have hcz23_0 : w21.cell? ⟨gb140, 0, none⟩ = some (.int .i64 (wrap64 (2 + (wrap64 (2 * (l0.length : Int)))))) := (blk_cell BK140.out 0).trans rfl; have hcz23_1 : w21.cell? ⟨gb140, 1, none⟩ = some (.int .i64 1) := (blk_cell BK140.out 1).trans rfl; have hcz23_2 : w21.cell? ⟨gb140, 2, none⟩ = some (.int .i64 2) := (blk_cell BK140.out 2).trans rfl; have hcz23_3 : w21.cell? ⟨gb140, 3, none⟩ = some (.slice Ao19 y143.length co19) := (blk_cell BK140.out 3).trans rfl; have hfz23_0 := blk_frozen BK140.out 0; have hfz23_1 := blk_frozen BK140.out 1; have hfz23_2 := blk_frozen BK140.out 2; have hfz23_3 := blk_frozen BK140.out 3) | ((with_reducible refine gate_builtin (b := .append) (xs := #[.tmp 66, .tmp 68]) rfl ?_); (try (refine gate_guard (by rfl) ?_; dsimp only)); at_builtin; refine Kd.R_append (Kd.int .i64) (w0 := w) w.heap.size rfl (.tmp 66) (.tmp 68) 27 2 (.int .i64 0) 8 rfl Try.underlying27 info2 rfl (by decide) (by omega) u5 x5_2 t142 [.int .i64 t142] (fun _ => True) (fun _ => False) rfl (by first | (go_simp; done) | (go_simp; rfl)) ?aP (fun _ hk => hk.elim) ?aF ?aO ?aB ?aS ?aL ?_; (case aP => exact rfl); (case aB => exact (by repeat (first | (with_reducible first | exact HB.out | apply below_alloc | apply pw_below_drewN | apply below_drew1 | refine below_set ?_ GE140.out) | exact HB.out))); (case aF => exact (fun _ _ => trivial)); (case aO => exact (by (with_reducible repeat (first | apply Kd.R_alloc | apply Kd.R_drewN | apply Kd.R_drew)); exact Kd.R_mono (Kd.R_far (p := ⟨gb140, 3, none⟩) (Kd.R_types HO_5.out BK140.out (by decide)) (fun _ hk => hk.2) (.slice Ao22 y146.length co22)) (fun _ hk => trivial))); (case aS => exact (below_size (by repeat (first | (with_reducible first | exact HB.out | apply below_alloc | apply pw_below_drewN | apply below_drew1 | refine below_set ?_ GE140.out) | exact HB.out)))); (case aL => have := LMc15.out; omega); intro v150 w24 ho hb hg hat; rw [← Ny149.out] at ho; have n0_ := Aside0.mk (blk_grown (g := gb140) (o := .cells #[.int .i64 (wrap64 (2 + (wrap64 (2 * (l0.length : Int))))), .int .i64 1, .int .i64 2, .slice Ao22 y146.length co22] 26 (0, 0)) (by (with_reducible repeat (first | refine blk_drewN ?_ _ | refine blk_drew ?_ | refine blk_alloc ?_ _)); refine blk_put (cs := #[.int .i64 (wrap64 (2 + (wrap64 (2 * (l0.length : Int))))), .int .i64 1, .int .i64 2, .slice Ao19 y143.length co19]) ?_ 3 _ rfl; (with_reducible repeat (first | refine blk_drewN ?_ _ | refine blk_drew ?_ | refine blk_alloc ?_ _)); exact BK140.out) hg (Kd.R_ne HO_5.out BK140.out (by decide))); have n1_ := Aside0.mk (Kd.R_over' (by (with_reducible repeat (first | apply Kd.R_alloc | apply Kd.R_drewN | apply Kd.R_drew)); exact (Kd.R_mono (Kd.R_far (p := ⟨gb140, 3, none⟩) (Kd.R_types HO148.out BK140.out (by decide)) (fun _ hk => hk.2) (.slice Ao22 y146.length co22)) (fun _ h_ => h_.1))) (Kd.R_typed (by (with_reducible repeat (first | apply Kd.R_alloc | apply Kd.R_drewN | apply Kd.R_drew)); exact (Kd.R_mono (Kd.R_far (p := ⟨gb140, 3, none⟩) (Kd.R_types HO_5.out BK140.out (by decide)) (fun _ hk => hk.2) (.slice Ao22 y146.length co22)) (fun _ h_ => h_.1)))) (by decide) hg); have n2_ := Aside0.mk (hb); have n3_ := Aside0.mk (ho); clear BK140; clear HO148; clear HB; clear HO_5; have BK140 := n0_; have HO148 := n1_; have HB := n2_; have HO151 := n3_; clear n0_ n1_ n2_ n3_; clear ho hb hg hat) | ((with_reducible refine gate_builtin (b := .append) (xs := #[.tmp 70, .tmp 72]) rfl ?_); (try (refine gate_guard (by rfl) ?_; dsimp only)); at_builtin; refine Kd.R_append (Kd.int .i64) (w0 := w) w.heap.size rfl (.tmp 70) (.tmp 72) 27 2 (.int .i64 0) 8 rfl Try.underlying27 info2 rfl (by decide) (by omega) v150 y149 t142 [.int .i64 t142] (fun _ => True) (fun _ => False) rfl rfl ?aP (fun _ hk => hk.elim) ?aF ?aO ?aB ?aS ?aL ?_; (case aP => exact rfl); (case aB => exact (by repeat (first | (with_reducible first | exact HB.out | apply below_alloc | apply pw_below_drewN | apply below_drew1 | refine below_set ?_ GE140.out) | exact HB.out))); (case aF => exact (fun _ _ => trivial)); (case aO => exact (by (with_reducible repeat (first | apply Kd.R_alloc | apply Kd.R_drewN | apply Kd.R_drew)); exact HO151.out)); (case aS => exact (below_size (by repeat (first | (with_reducible first | exact HB.out | apply below_alloc | apply pw_below_drewN | apply below_drew1 | refine below_set ?_ GE140.out) | exact HB.out)))); (case aL => have := LMc16.out; omega); intro v153 w25 ho hb hg hat; rw [← Ny152.out] at ho; have n0_ := Aside0.mk (blk_grown (g := gb140) (o := .cells #[.int .i64 (wrap64 (2 + (wrap64 (2 * (l0.length : Int))))), .int .i64 1, .int .i64 2, .slice Ao22 y146.length co22] 26 (0, 0)) (by (with_reducible repeat (first | refine blk_drewN ?_ _ | refine blk_drew ?_ | refine blk_alloc ?_ _)); exact BK140.out) hg (Kd.R_ne HO151.out BK140.out (by decide))); have n1_ := Aside0.mk (Kd.R_over' (by (with_reducible repeat (first | apply Kd.R_alloc | apply Kd.R_drewN | apply Kd.R_drew)); exact HO148.out) (Kd.R_typed (by (with_reducible repeat (first | apply Kd.R_alloc | apply Kd.R_drewN | apply Kd.R_drew)); exact HO151.out)) (by decide) hg); have n2_ := Aside0.mk (hb); have n3_ := Aside0.mk (ho); clear BK140; clear HO148; clear HB; clear HO151; have BK140 := n0_; have HO148 := n1_; have HB := n2_; have HO154 := n3_; clear n0_ n1_ n2_ n3_; clear ho hb hg hat))
                            repeat (go_quiet (first | (go_at_call 9; (with_reducible refine (racewaylaw15_pick.calls (rd l0 x7_2) 5 t142 _ A11.out).mono ?_); rintro e w' ⟨rfl, ⟨nd, rfl⟩⟩; (try first | exact ⟨rfl, _, World.drewN_drewN _ _ _⟩ | exact ⟨rfl, _, Eq.trans (World.drewN_drewN _ _ _) (congrArg (World.drewN _) (Nat.add_assoc _ _ _))⟩); have hcz17_0 : wr.cell? ⟨gb140, 0, none⟩ = some (.int .i64 (wrap64 (2 + (wrap64 (2 * (l0.length : Int)))))) := (blk_cell BK140.out 0).trans rfl; have hcz17_1 : wr.cell? ⟨gb140, 1, none⟩ = some (.int .i64 1) := (blk_cell BK140.out 1).trans rfl; have hcz17_2 : wr.cell? ⟨gb140, 2, none⟩ = some (.int .i64 2) := (blk_cell BK140.out 2).trans rfl; have hcz17_3 : wr.cell? ⟨gb140, 3, none⟩ = some (u141003) := (blk_cell BK140.out 3).trans rfl; have hfz17_0 := blk_frozen BK140.out 0; have hfz17_1 := blk_frozen BK140.out 1; have hfz17_2 := blk_frozen BK140.out 2; have hfz17_3 := blk_frozen BK140.out 3) | ((with_reducible refine gate_builtin (b := .append) (xs := #[.tmp 43, .tmp 51]) rfl ?_); (try (refine gate_guard (by rfl) ?_; dsimp only)); at_builtin; refine Kd.R_append k30 (w0 := w) w.heap.size rfl (.tmp 43) (.tmp 51) 24 30 (.agg #[(.int .i64 0), (.int .i64 0), (.int .i64 0)]) 24 rfl Try.underlying24 info30 rfl (by decide) (by omega) u141003 x141003_2 (⟨wrap64 (3 + (wrap64 (2 * x7_2))), wrap64 (4 + (wrap64 (2 * x7_2))), 5⟩ : S30) [.int .i64 (wrap64 (3 + (wrap64 (2 * x7_2)))), .int .i64 (wrap64 (4 + (wrap64 (2 * x7_2)))), .int .i64 5] (fun _ => True) (fun _ => False) rfl rfl ?aP (fun _ hk => hk.elim) ?aF ?aO ?aB ?aS ?aL ?_; (case aP => exact k30_mkM _ _ _ (⟨wrap64 (3 + (wrap64 (2 * x7_2))), wrap64 (4 + (wrap64 (2 * x7_2))), 5⟩ : S30)); (case aB => exact (by repeat (first | (with_reducible first | exact HB.out | apply below_alloc | apply pw_below_drewN | apply below_drew1 | refine below_set ?_ GE140.out) | exact HB.out))); (case aF => exact (fun _ _ => trivial)); (case aO => exact (by (with_reducible repeat (first | apply Kd.R_alloc | apply Kd.R_drewN | apply Kd.R_drew)); exact HO_141003.out)); (case aS => exact (below_size (by repeat (first | (with_reducible first | exact HB.out | apply below_alloc | apply pw_below_drewN | apply below_drew1 | refine below_set ?_ GE140.out) | exact HB.out)))); (case aL => have := LMc13.out; omega); intro v144 w18 ho hb hg hat; rw [← Ny143.out] at ho; have n0_ := Aside0.mk (Kd.R_over' (by (with_reducible repeat (first | apply Kd.R_alloc | apply Kd.R_drewN | apply Kd.R_drew)); exact HO_5.out) (Kd.R_typed (by (with_reducible repeat (first | apply Kd.R_alloc | apply Kd.R_drewN | apply Kd.R_drew)); exact HO_141003.out)) (by decide) hg); have n1_ := Aside0.mk (blk_grown (g := gb140) (o := .cells #[.int .i64 (wrap64 (2 + (wrap64 (2 * (l0.length : Int))))), .int .i64 1, .int .i64 2, u141003] 26 (0, 0)) (by (with_reducible repeat (first | refine blk_drewN ?_ _ | refine blk_drew ?_ | refine blk_alloc ?_ _)); exact BK140.out) hg (Kd.R_ne HO_141003.out BK140.out (by decide))); have n2_ := Aside0.mk (hb); have n3_ := Aside0.mk (ho); clear HO_5; clear BK140; clear HB; clear HO_141003; have HO_5 := n0_; have BK140 := n1_; have HB := n2_; have HO145 := n3_; clear n0_ n1_ n2_ n3_; clear ho hb hg hat; obtain ⟨Ao19, co19, eo19⟩ := Kd.R_slice HO145.out; subst eo19; have hcz20_0 : w18.cell? ⟨gb140, 0, none⟩ = some (.int .i64 (wrap64 (2 + (wrap64 (2 * (l0.length : Int)))))) := (blk_cell BK140.out 0).trans rfl; have hcz20_1 : w18.cell? ⟨gb140, 1, none⟩ = some (.int .i64 1) := (blk_cell BK140.out 1).trans rfl; have hcz20_2 : w18.cell? ⟨gb140, 2, none⟩ = some (.int .i64 2) := (blk_cell BK140.out 2).trans rfl; have hcz20_3 : w18.cell? ⟨gb140, 3, none⟩ = some (u141003) := (blk_cell BK140.out 3).trans rfl; have hfz20_0 := blk_frozen BK140.out 0; have hfz20_1 := blk_frozen BK140.out 1; have hfz20_2 := blk_frozen BK140.out 2; have hfz20_3 := blk_frozen BK140.out 3) | ((with_reducible refine gate_builtin (b := .append) (xs := #[.tmp 55, .tmp 63]) rfl ?_); (try (refine gate_guard (by rfl) ?_; dsimp only)); at_builtin; refine Kd.R_append k30 (w0 := w) w.heap.size rfl (.tmp 55) (.tmp 63) 24 30 (.agg #[(.int .i64 0), (.int .i64 0), (.int .i64 0)]) 24 rfl Try.underlying24 info30 rfl (by decide) (by omega) (.slice Ao19 y143.length co19) y143 (⟨wrap64 (4 + (wrap64 (2 * x7_2))), wrap64 (3 + (wrap64 (2 * x7_2))), 5⟩ : S30) [.int .i64 (wrap64 (4 + (wrap64 (2 * x7_2)))), .int .i64 (wrap64 (3 + (wrap64 (2 * x7_2)))), .int .i64 5] (fun _ => True) (fun _ => False) rfl (by first | (go_simp; done) | (go_simp; rfl)) ?aP (fun _ hk => hk.elim) ?aF ?aO ?aB ?aS ?aL ?_; (case aP => exact k30_mkM _ _ _ (⟨wrap64 (4 + (wrap64 (2 * x7_2))), wrap64 (3 + (wrap64 (2 * x7_2))), 5⟩ : S30)); (case aB => exact (by repeat (first | (with_reducible first | exact HB.out | apply below_alloc | apply pw_below_drewN | apply below_drew1 | refine below_set ?_ GE140.out) | exact HB.out))); (case aF => exact (fun _ _ => trivial)); (case aO => exact (by (with_reducible repeat (first | apply Kd.R_alloc | apply Kd.R_drewN | apply Kd.R_drew)); exact Kd.R_mono (Kd.R_far (p := ⟨gb140, 3, none⟩) (Kd.R_types HO145.out BK140.out (by decide)) (fun _ hk => hk.2) (.slice Ao19 y143.length co19)) (fun _ hk => trivial))); (case aS => exact (below_size (by repeat (first | (with_reducible first | exact HB.out | apply below_alloc | apply pw_below_drewN | apply below_drew1 | refine below_set ?_ GE140.out) | exact HB.out)))); (case aL => have := LMc14.out; omega); intro v147 w21 ho hb hg hat; rw [← Ny146.out] at ho; have n0_ := Aside0.mk (Kd.R_over' (by (with_reducible repeat (first | apply Kd.R_alloc | apply Kd.R_drewN | apply Kd.R_drew)); exact (Kd.R_mono (Kd.R_far (p := ⟨gb140, 3, none⟩) (Kd.R_types HO_5.out BK140.out (by decide)) (fun _ hk => hk.2) (.slice Ao19 y143.length co19)) (fun _ h_ => h_.1))) (Kd.R_typed (by (with_reducible repeat (first | apply Kd.R_alloc | apply Kd.R_drewN | apply Kd.R_drew)); exact (Kd.R_mono (Kd.R_far (p := ⟨gb140, 3, none⟩) (Kd.R_types HO145.out BK140.out (by decide)) (fun _ hk => hk.2) (.slice Ao19 y143.length co19)) (fun _ h_ => h_.1)))) (by decide) hg); have n1_ := Aside0.mk (blk_grown (g := gb140) (o := .cells #[.int .i64 (wrap64 (2 + (wrap64 (2 * (l0.length : Int))))), .int .i64 1, .int .i64 2, .slice Ao19 y143.length co19] 26 (0, 0)) (by (with_reducible repeat (first | refine blk_drewN ?_ _ | refine blk_drew ?_ | refine blk_alloc ?_ _)); refine blk_put (cs := #[.int .i64 (wrap64 (2 + (wrap64 (2 * (l0.length : Int))))), .int .i64 1, .int .i64 2, u141003]) ?_ 3 _ rfl; (with_reducible repeat (first | refine blk_drewN ?_ _ | refine blk_drew ?_ | refine blk_alloc ?_ _)); exact BK140.out) hg (Kd.R_ne HO145.out BK140.out (by decide))); have n2_ := Aside0.mk (hb); have n3_ := Aside0.mk (ho); clear HO_5; clear BK140; clear HB; clear HO145; have HO_5 := n0_; have BK140 := n1_; have HB := n2_; have HO148 := n3_; clear n0_ n1_ n2_ n3_; clear ho hb hg hat; obtain ⟨Ao22, co22, eo22⟩ := Kd.R_slice HO148.out; subst eo22; have hcz23_0 : w21.cell? ⟨gb140, 0, none⟩ = some (.int .i64 (wrap64 (2 + (wrap64 (2 * (l0.length : Int)))))) := (blk_cell BK140.out 0).trans rfl; have hcz23_1 : w21.cell? ⟨gb140, 1, none⟩ = some (.int .i64 1) := (blk_cell BK140.out 1).trans rfl; have hcz23_2 : w21.cell? ⟨gb140, 2, none⟩ = some (.int .i64 2) := (blk_cell BK140.out 2).trans rfl; have hcz23_3 : w21.cell? ⟨gb140, 3, none⟩ = some (.slice Ao19 y143.length co19) := (blk_cell BK140.out 3).trans rfl; have hfz23_0 := blk_frozen BK140.out 0; have hfz23_1 := blk_frozen BK140.out 1; have hfz23_2 := blk_frozen BK140.out 2; have hfz23_3 := blk_frozen BK140.out 3) | ((with_reducible refine gate_builtin (b := .append) (xs := #[.tmp 66, .tmp 68]) rfl ?_); (try (refine gate_guard (by rfl) ?_; dsimp only)); at_builtin; refine Kd.R_append (Kd.int .i64) (w0 := w) w.heap.size rfl (.tmp 66) (.tmp 68) 27 2 (.int .i64 0) 8 rfl Try.underlying27 info2 rfl (by decide) (by omega) u5 x5_2 t142 [.int .i64 t142] (fun _ => True) (fun _ => False) rfl (by first | (go_simp; done) | (go_simp; rfl)) ?aP (fun _ hk => hk.elim) ?aF ?aO ?aB ?aS ?aL ?_; (case aP => exact rfl); (case aB => exact (by repeat (first | (with_reducible first | exact HB.out | apply below_alloc | apply pw_below_drewN | apply below_drew1 | refine below_set ?_ GE140.out) | exact HB.out))); (case aF => exact (fun _ _ => trivial)); (case aO => exact (by (with_reducible repeat (first | apply Kd.R_alloc | apply Kd.R_drewN | apply Kd.R_drew)); exact Kd.R_mono (Kd.R_far (p := ⟨gb140, 3, none⟩) (Kd.R_types HO_5.out BK140.out (by decide)) (fun _ hk => hk.2) (.slice Ao22 y146.length co22)) (fun _ hk => trivial))); (case aS => exact (below_size (by repeat (first | (with_reducible first | exact HB.out | apply below_alloc | apply pw_below_drewN | apply below_drew1 | refine below_set ?_ GE140.out) | exact HB.out)))); (case aL => have := LMc15.out; omega); intro v150 w24 ho hb hg hat; rw [← Ny149.out] at ho; have n0_ := Aside0.mk (blk_grown (g := gb140) (o := .cells #[.int .i64 (wrap64 (2 + (wrap64 (2 * (l0.length : Int))))), .int .i64 1, .int .i64 2, .slice Ao22 y146.length co22] 26 (0, 0)) (by (with_reducible repeat (first | refine blk_drewN ?_ _ | refine blk_drew ?_ | refine blk_alloc ?_ _)); refine blk_put (cs := #[.int .i64 (wrap64 (2 + (wrap64 (2 * (l0.length : Int))))), .int .i64 1, .int .i64 2, .slice Ao19 y143.length co19]) ?_ 3 _ rfl; (with_reducible repeat (first | refine blk_drewN ?_ _ | refine blk_drew ?_ | refine blk_alloc ?_ _)); exact BK140.out) hg (Kd.R_ne HO_5.out BK140.out (by decide))); have n1_ := Aside0.mk (Kd.R_over' (by (with_reducible repeat (first | apply Kd.R_alloc | apply Kd.R_drewN | apply Kd.R_drew)); exact (Kd.R_mono (Kd.R_far (p := ⟨gb140, 3, none⟩) (Kd.R_types HO148.out BK140.out (by decide)) (fun _ hk => hk.2) (.slice Ao22 y146.length co22)) (fun _ h_ => h_.1))) (Kd.R_typed (by (with_reducible repeat (first | apply Kd.R_alloc | apply Kd.R_drewN | apply Kd.R_drew)); exact (Kd.R_mono (Kd.R_far (p := ⟨gb140, 3, none⟩) (Kd.R_types HO_5.out BK140.out (by decide)) (fun _ hk => hk.2) (.slice Ao22 y146.length co22)) (fun _ h_ => h_.1)))) (by decide) hg); have n2_ := Aside0.mk (hb); have n3_ := Aside0.mk (ho); clear BK140; clear HO148; clear HB; clear HO_5; have BK140 := n0_; have HO148 := n1_; have HB := n2_; have HO151 := n3_; clear n0_ n1_ n2_ n3_; clear ho hb hg hat) | ((with_reducible refine gate_builtin (b := .append) (xs := #[.tmp 70, .tmp 72]) rfl ?_); (try (refine gate_guard (by rfl) ?_; dsimp only)); at_builtin; refine Kd.R_append (Kd.int .i64) (w0 := w) w.heap.size rfl (.tmp 70) (.tmp 72) 27 2 (.int .i64 0) 8 rfl Try.underlying27 info2 rfl (by decide) (by omega) v150 y149 t142 [.int .i64 t142] (fun _ => True) (fun _ => False) rfl rfl ?aP (fun _ hk => hk.elim) ?aF ?aO ?aB ?aS ?aL ?_; (case aP => exact rfl); (case aB => exact (by repeat (first | (with_reducible first | exact HB.out | apply below_alloc | apply pw_below_drewN | apply below_drew1 | refine below_set ?_ GE140.out) | exact HB.out))); (case aF => exact (fun _ _ => trivial)); (case aO => exact (by (with_reducible repeat (first | apply Kd.R_alloc | apply Kd.R_drewN | apply Kd.R_drew)); exact HO151.out)); (case aS => exact (below_size (by repeat (first | (with_reducible first | exact HB.out | apply below_alloc | apply pw_below_drewN | apply below_drew1 | refine below_set ?_ GE140.out) | exact HB.out)))); (case aL => have := LMc16.out; omega); intro v153 w25 ho hb hg hat; rw [← Ny152.out] at ho; have n0_ := Aside0.mk (blk_grown (g := gb140) (o := .cells #[.int .i64 (wrap64 (2 + (wrap64 (2 * (l0.length : Int))))), .int .i64 1, .int .i64 2, .slice Ao22 y146.length co22] 26 (0, 0)) (by (with_reducible repeat (first | refine blk_drewN ?_ _ | refine blk_drew ?_ | refine blk_alloc ?_ _)); exact BK140.out) hg (Kd.R_ne HO151.out BK140.out (by decide))); have n1_ := Aside0.mk (Kd.R_over' (by (with_reducible repeat (first | apply Kd.R_alloc | apply Kd.R_drewN | apply Kd.R_drew)); exact HO148.out) (Kd.R_typed (by (with_reducible repeat (first | apply Kd.R_alloc | apply Kd.R_drewN | apply Kd.R_drew)); exact HO151.out)) (by decide) hg); have n2_ := Aside0.mk (hb); have n3_ := Aside0.mk (ho); clear BK140; clear HO148; clear HB; clear HO151; have BK140 := n0_; have HO148 := n1_; have HB := n2_; have HO154 := n3_; clear n0_ n1_ n2_ n3_; clear ho hb hg hat)); try go_wp2_with (first | (go_at_call 9; (with_reducible refine (racewaylaw15_pick.calls (rd l0 x7_2) 5 t142 _ A11.out).mono ?_); rintro e w' ⟨rfl, ⟨nd, rfl⟩⟩; (try first | exact ⟨rfl, _, World.drewN_drewN _ _ _⟩ | exact ⟨rfl, _, Eq.trans (World.drewN_drewN _ _ _) (congrArg (World.drewN _) (Nat.add_assoc _ _ _))⟩); have hcz17_0 : wr.cell? ⟨gb140, 0, none⟩ = some (.int .i64 (wrap64 (2 + (wrap64 (2 * (l0.length : Int)))))) := (blk_cell BK140.out 0).trans rfl; have hcz17_1 : wr.cell? ⟨gb140, 1, none⟩ = some (.int .i64 1) := (blk_cell BK140.out 1).trans rfl; have hcz17_2 : wr.cell? ⟨gb140, 2, none⟩ = some (.int .i64 2) := (blk_cell BK140.out 2).trans rfl; have hcz17_3 : wr.cell? ⟨gb140, 3, none⟩ = some (u141003) := (blk_cell BK140.out 3).trans rfl; have hfz17_0 := blk_frozen BK140.out 0; have hfz17_1 := blk_frozen BK140.out 1; have hfz17_2 := blk_frozen BK140.out 2; have hfz17_3 := blk_frozen BK140.out 3) | ((with_reducible refine gate_builtin (b := .append) (xs := #[.tmp 43, .tmp 51]) rfl ?_); (try (refine gate_guard (by rfl) ?_; dsimp only)); at_builtin; refine Kd.R_append k30 (w0 := w) w.heap.size rfl (.tmp 43) (.tmp 51) 24 30 (.agg #[(.int .i64 0), (.int .i64 0), (.int .i64 0)]) 24 rfl Try.underlying24 info30 rfl (by decide) (by omega) u141003 x141003_2 (⟨wrap64 (3 + (wrap64 (2 * x7_2))), wrap64 (4 + (wrap64 (2 * x7_2))), 5⟩ : S30) [.int .i64 (wrap64 (3 + (wrap64 (2 * x7_2)))), .int .i64 (wrap64 (4 + (wrap64 (2 * x7_2)))), .int .i64 5] (fun _ => True) (fun _ => False) rfl rfl ?aP (fun _ hk => hk.elim) ?aF ?aO ?aB ?aS ?aL ?_; (case aP => exact k30_mkM _ _ _ (⟨wrap64 (3 + (wrap64 (2 * x7_2))), wrap64 (4 + (wrap64 (2 * x7_2))), 5⟩ : S30)); (case aB => exact (by repeat (first | (with_reducible first | exact HB.out | apply below_alloc | apply pw_below_drewN | apply below_drew1 | refine below_set ?_ GE140.out) | exact HB.out))); (case aF => exact (fun _ _ => trivial)); (case aO => exact (by (with_reducible repeat (first | apply Kd.R_alloc | apply Kd.R_drewN | apply Kd.R_drew)); exact HO_141003.out)); (case aS => exact (below_size (by repeat (first | (with_reducible first | exact HB.out | apply below_alloc | apply pw_below_drewN | apply below_drew1 | refine below_set ?_ GE140.out) | exact HB.out)))); (case aL => have := LMc13.out; omega); intro v144 w18 ho hb hg hat; rw [← Ny143.out] at ho; have n0_ := Aside0.mk (Kd.R_over' (by (with_reducible repeat (first | apply Kd.R_alloc | apply Kd.R_drewN | apply Kd.R_drew)); exact HO_5.out) (Kd.R_typed (by (with_reducible repeat (first | apply Kd.R_alloc | apply Kd.R_drewN | apply Kd.R_drew)); exact HO_141003.out)) (by decide) hg); have n1_ := Aside0.mk (blk_grown (g := gb140) (o := .cells #[.int .i64 (wrap64 (2 + (wrap64 (2 * (l0.length : Int))))), .int .i64 1, .int .i64 2, u141003] 26 (0, 0)) (by (with_reducible repeat (first | refine blk_drewN ?_ _ | refine blk_drew ?_ | refine blk_alloc ?_ _)); exact BK140.out) hg (Kd.R_ne HO_141003.out BK140.out (by decide))); have n2_ := Aside0.mk (hb); have n3_ := Aside0.mk (ho); clear HO_5; clear BK140; clear HB; clear HO_141003; have HO_5 := n0_; have BK140 := n1_; have HB := n2_; have HO145 := n3_; clear n0_ n1_ n2_ n3_; clear ho hb hg hat; obtain ⟨Ao19, co19, eo19⟩ := Kd.R_slice HO145.out; subst eo19; have hcz20_0 : w18.cell? ⟨gb140, 0, none⟩ = some (.int .i64 (wrap64 (2 + (wrap64 (2 * (l0.length : Int)))))) := (blk_cell BK140.out 0).trans rfl; have hcz20_1 : w18.cell? ⟨gb140, 1, none⟩ = some (.int .i64 1) := (blk_cell BK140.out 1).trans rfl; have hcz20_2 : w18.cell? ⟨gb140, 2, none⟩ = some (.int .i64 2) := (blk_cell BK140.out 2).trans rfl; have hcz20_3 : w18.cell? ⟨gb140, 3, none⟩ = some (u141003) := (blk_cell BK140.out 3).trans rfl; have hfz20_0 := blk_frozen BK140.out 0; have hfz20_1 := blk_frozen BK140.out 1; have hfz20_2 := blk_frozen BK140.out 2; have hfz20_3 := blk_frozen BK140.out 3) | ((with_reducible refine gate_builtin (b := .append) (xs := #[.tmp 55, .tmp 63]) rfl ?_); (try (refine gate_guard (by rfl) ?_; dsimp only)); at_builtin; refine Kd.R_append k30 (w0 := w) w.heap.size rfl (.tmp 55) (.tmp 63) 24 30 (.agg #[(.int .i64 0), (.int .i64 0), (.int .i64 0)]) 24 rfl Try.underlying24 info30 rfl (by decide) (by omega) (.slice Ao19 y143.length co19) y143 (⟨wrap64 (4 + (wrap64 (2 * x7_2))), wrap64 (3 + (wrap64 (2 * x7_2))), 5⟩ : S30) [.int .i64 (wrap64 (4 + (wrap64 (2 * x7_2)))), .int .i64 (wrap64 (3 + (wrap64 (2 * x7_2)))), .int .i64 5] (fun _ => True) (fun _ => False) rfl (by first | (go_simp; done) | (go_simp; rfl)) ?aP (fun _ hk => hk.elim) ?aF ?aO ?aB ?aS ?aL ?_; (case aP => exact k30_mkM _ _ _ (⟨wrap64 (4 + (wrap64 (2 * x7_2))), wrap64 (3 + (wrap64 (2 * x7_2))), 5⟩ : S30)); (case aB => exact (by repeat (first | (with_reducible first | exact HB.out | apply below_alloc | apply pw_below_drewN | apply below_drew1 | refine below_set ?_ GE140.out) | exact HB.out))); (case aF => exact (fun _ _ => trivial)); (case aO => exact (by (with_reducible repeat (first | apply Kd.R_alloc | apply Kd.R_drewN | apply Kd.R_drew)); exact Kd.R_mono (Kd.R_far (p := ⟨gb140, 3, none⟩) (Kd.R_types HO145.out BK140.out (by decide)) (fun _ hk => hk.2) (.slice Ao19 y143.length co19)) (fun _ hk => trivial))); (case aS => exact (below_size (by repeat (first | (with_reducible first | exact HB.out | apply below_alloc | apply pw_below_drewN | apply below_drew1 | refine below_set ?_ GE140.out) | exact HB.out)))); (case aL => have := LMc14.out; omega); intro v147 w21 ho hb hg hat; rw [← Ny146.out] at ho; have n0_ := Aside0.mk (Kd.R_over' (by (with_reducible repeat (first | apply Kd.R_alloc | apply Kd.R_drewN | apply Kd.R_drew)); exact (Kd.R_mono (Kd.R_far (p := ⟨gb140, 3, none⟩) (Kd.R_types HO_5.out BK140.out (by decide)) (fun _ hk => hk.2) (.slice Ao19 y143.length co19)) (fun _ h_ => h_.1))) (Kd.R_typed (by (with_reducible repeat (first | apply Kd.R_alloc | apply Kd.R_drewN | apply Kd.R_drew)); exact (Kd.R_mono (Kd.R_far (p := ⟨gb140, 3, none⟩) (Kd.R_types HO145.out BK140.out (by decide)) (fun _ hk => hk.2) (.slice Ao19 y143.length co19)) (fun _ h_ => h_.1)))) (by decide) hg); have n1_ := Aside0.mk (blk_grown (g := gb140) (o := .cells #[.int .i64 (wrap64 (2 + (wrap64 (2 * (l0.length : Int))))), .int .i64 1, .int .i64 2, .slice Ao19 y143.length co19] 26 (0, 0)) (by (with_reducible repeat (first | refine blk_drewN ?_ _ | refine blk_drew ?_ | refine blk_alloc ?_ _)); refine blk_put (cs := #[.int .i64 (wrap64 (2 + (wrap64 (2 * (l0.length : Int))))), .int .i64 1, .int .i64 2, u141003]) ?_ 3 _ rfl; (with_reducible repeat (first | refine blk_drewN ?_ _ | refine blk_drew ?_ | refine blk_alloc ?_ _)); exact BK140.out) hg (Kd.R_ne HO145.out BK140.out (by decide))); have n2_ := Aside0.mk (hb); have n3_ := Aside0.mk (ho); clear HO_5; clear BK140; clear HB; clear HO145; have HO_5 := n0_; have BK140 := n1_; have HB := n2_; have HO148 := n3_; clear n0_ n1_ n2_ n3_; clear ho hb hg hat; obtain ⟨Ao22, co22, eo22⟩ := Kd.R_slice HO148.out; subst eo22; have hcz23_0 : w21.cell? ⟨gb140, 0, none⟩ = some (.int .i64 (wrap64 (2 + (wrap64 (2 * (l0.length : Int)))))) := (blk_cell BK140.out 0).trans rfl; have hcz23_1 : w21.cell? ⟨gb140, 1, none⟩ = some (.int .i64 1) := (blk_cell BK140.out 1).trans rfl; have hcz23_2 : w21.cell? ⟨gb140, 2, none⟩ = some (.int .i64 2) := (blk_cell BK140.out 2).trans rfl; have hcz23_3 : w21.cell? ⟨gb140, 3, none⟩ = some (.slice Ao19 y143.length co19) := (blk_cell BK140.out 3).trans rfl; have hfz23_0 := blk_frozen BK140.out 0; have hfz23_1 := blk_frozen BK140.out 1; have hfz23_2 := blk_frozen BK140.out 2; have hfz23_3 := blk_frozen BK140.out 3) | ((with_reducible refine gate_builtin (b := .append) (xs := #[.tmp 66, .tmp 68]) rfl ?_); (try (refine gate_guard (by rfl) ?_; dsimp only)); at_builtin; refine Kd.R_append (Kd.int .i64) (w0 := w) w.heap.size rfl (.tmp 66) (.tmp 68) 27 2 (.int .i64 0) 8 rfl Try.underlying27 info2 rfl (by decide) (by omega) u5 x5_2 t142 [.int .i64 t142] (fun _ => True) (fun _ => False) rfl (by first | (go_simp; done) | (go_simp; rfl)) ?aP (fun _ hk => hk.elim) ?aF ?aO ?aB ?aS ?aL ?_; (case aP => exact rfl); (case aB => exact (by repeat (first | (with_reducible first | exact HB.out | apply below_alloc | apply pw_below_drewN | apply below_drew1 | refine below_set ?_ GE140.out) | exact HB.out))); (case aF => exact (fun _ _ => trivial)); (case aO => exact (by (with_reducible repeat (first | apply Kd.R_alloc | apply Kd.R_drewN | apply Kd.R_drew)); exact Kd.R_mono (Kd.R_far (p := ⟨gb140, 3, none⟩) (Kd.R_types HO_5.out BK140.out (by decide)) (fun _ hk => hk.2) (.slice Ao22 y146.length co22)) (fun _ hk => trivial))); (case aS => exact (below_size (by repeat (first | (with_reducible first | exact HB.out | apply below_alloc | apply pw_below_drewN | apply below_drew1 | refine below_set ?_ GE140.out) | exact HB.out)))); (case aL => have := LMc15.out; omega); intro v150 w24 ho hb hg hat; rw [← Ny149.out] at ho; have n0_ := Aside0.mk (blk_grown (g := gb140) (o := .cells #[.int .i64 (wrap64 (2 + (wrap64 (2 * (l0.length : Int))))), .int .i64 1, .int .i64 2, .slice Ao22 y146.length co22] 26 (0, 0)) (by (with_reducible repeat (first | refine blk_drewN ?_ _ | refine blk_drew ?_ | refine blk_alloc ?_ _)); refine blk_put (cs := #[.int .i64 (wrap64 (2 + (wrap64 (2 * (l0.length : Int))))), .int .i64 1, .int .i64 2, .slice Ao19 y143.length co19]) ?_ 3 _ rfl; (with_reducible repeat (first | refine blk_drewN ?_ _ | refine blk_drew ?_ | refine blk_alloc ?_ _)); exact BK140.out) hg (Kd.R_ne HO_5.out BK140.out (by decide))); have n1_ := Aside0.mk (Kd.R_over' (by (with_reducible repeat (first | apply Kd.R_alloc | apply Kd.R_drewN | apply Kd.R_drew)); exact (Kd.R_mono (Kd.R_far (p := ⟨gb140, 3, none⟩) (Kd.R_types HO148.out BK140.out (by decide)) (fun _ hk => hk.2) (.slice Ao22 y146.length co22)) (fun _ h_ => h_.1))) (Kd.R_typed (by (with_reducible repeat (first | apply Kd.R_alloc | apply Kd.R_drewN | apply Kd.R_drew)); exact (Kd.R_mono (Kd.R_far (p := ⟨gb140, 3, none⟩) (Kd.R_types HO_5.out BK140.out (by decide)) (fun _ hk => hk.2) (.slice Ao22 y146.length co22)) (fun _ h_ => h_.1)))) (by decide) hg); have n2_ := Aside0.mk (hb); have n3_ := Aside0.mk (ho); clear BK140; clear HO148; clear HB; clear HO_5; have BK140 := n0_; have HO148 := n1_; have HB := n2_; have HO151 := n3_; clear n0_ n1_ n2_ n3_; clear ho hb hg hat) | ((with_reducible refine gate_builtin (b := .append) (xs := #[.tmp 70, .tmp 72]) rfl ?_); (try (refine gate_guard (by rfl) ?_; dsimp only)); at_builtin; refine Kd.R_append (Kd.int .i64) (w0 := w) w.heap.size rfl (.tmp 70) (.tmp 72) 27 2 (.int .i64 0) 8 rfl Try.underlying27 info2 rfl (by decide) (by omega) v150 y149 t142 [.int .i64 t142] (fun _ => True) (fun _ => False) rfl rfl ?aP (fun _ hk => hk.elim) ?aF ?aO ?aB ?aS ?aL ?_; (case aP => exact rfl); (case aB => exact (by repeat (first | (with_reducible first | exact HB.out | apply below_alloc | apply pw_below_drewN | apply below_drew1 | refine below_set ?_ GE140.out) | exact HB.out))); (case aF => exact (fun _ _ => trivial)); (case aO => exact (by (with_reducible repeat (first | apply Kd.R_alloc | apply Kd.R_drewN | apply Kd.R_drew)); exact HO151.out)); (case aS => exact (below_size (by repeat (first | (with_reducible first | exact HB.out | apply below_alloc | apply pw_below_drewN | apply below_drew1 | refine below_set ?_ GE140.out) | exact HB.out)))); (case aL => have := LMc16.out; omega); intro v153 w25 ho hb hg hat; rw [← Ny152.out] at ho; have n0_ := Aside0.mk (blk_grown (g := gb140) (o := .cells #[.int .i64 (wrap64 (2 + (wrap64 (2 * (l0.length : Int))))), .int .i64 1, .int .i64 2, .slice Ao22 y146.length co22] 26 (0, 0)) (by (with_reducible repeat (first | refine blk_drewN ?_ _ | refine blk_drew ?_ | refine blk_alloc ?_ _)); exact BK140.out) hg (Kd.R_ne HO151.out BK140.out (by decide))); have n1_ := Aside0.mk (Kd.R_over' (by (with_reducible repeat (first | apply Kd.R_alloc | apply Kd.R_drewN | apply Kd.R_drew)); exact HO148.out) (Kd.R_typed (by (with_reducible repeat (first | apply Kd.R_alloc | apply Kd.R_drewN | apply Kd.R_drew)); exact HO151.out)) (by decide) hg); have n2_ := Aside0.mk (hb); have n3_ := Aside0.mk (ho); clear BK140; clear HO148; clear HB; clear HO151; have BK140 := n0_; have HO148 := n1_; have HB := n2_; have HO154 := n3_; clear n0_ n1_ n2_ n3_; clear ho hb hg hat)))
                            go_roundg k2
                            case measure => have := HJ2.out; have := HK2.out; omega
                            case rel => exact ⟨(y152), (wrap64 (x6_2 + 1)), (wrap64 (x7_2 + 1)), (y146), (.slice Ao22 y146.length co22), (by first | rfl | (simp; done) | (simp [*]; done)), (by first | rfl | (simp; done) | (simp [*]; done)), H', ⟨by have := HJ2.out; have := HK2.out; omega⟩, ⟨by (with_reducible repeat (first | apply Kd.R_alloc | apply Kd.R_drewN | apply Kd.R_drew)); exact HO154.out⟩, ⟨by (with_reducible repeat (first | apply Kd.R_alloc | apply Kd.R_drewN | apply Kd.R_drew)); exact HO148.out⟩, ⟨by (with_reducible repeat (first | refine blk_drewN ?_ _ | refine blk_drew ?_ | refine blk_alloc ?_ _)); exact BK140.out⟩, ⟨by repeat (first | (with_reducible first | exact HB.out | apply below_alloc | apply pw_below_drewN | apply below_drew1 | refine below_set ?_ GE140.out) | exact HB.out)⟩⟩
                        · rw [if_neg c16] at H
                          exact absurd H (by simp)
                      · rw [if_neg c15] at H
                        exact absurd H (by simp)
                    · rw [if_neg c14] at H
                      exact absurd H (by simp)
                  · rw [if_neg c13] at H
                    exact absurd H (by simp)
                · rw [if_neg c12] at H
                  have c12b0 : decide (0 < t142) = false := decide_eq_false c12
                  clear c12
                  by_cases c26 : x141003_2.length < 5864062014805
                  · rw [if_pos c26] at H
                    have LMc26 := Aside0.mk c26
                    clear c26
                    obtain ⟨y155, hy155⟩ : ∃ y_ : List (S30), y_ = (x141003_2 ++ [(⟨wrap64 (3 + (wrap64 (2 * x7_2))), wrap64 (4 + (wrap64 (2 * x7_2))), 5⟩ : S30)]) := ⟨_, rfl⟩
                    replace H : (if y155.length < 5864062014805 then (if x5_2.length < 17592186044416 then ((some (x5_2 ++ [t142] : List Int)).bind fun y161 => (if y161.length < 17592186044416 then (racewaylaw15_DecompLoops.l0 k2 l0 (y161 ++ [t142]) x6_2 (wrap64 (x7_2 + 1)) (wrap64 (2 + (wrap64 (2 * (l0.length : Int))))) 1 2 (y155 ++ [(⟨wrap64 (4 + (wrap64 (2 * x7_2))), wrap64 (3 + (wrap64 (2 * x7_2))), 5⟩ : S30)])) else (none))) else (none)) else (none)) = some r := by first | (rw [hy155]; with_reducible exact H) | (have H2_ := (Option.bind_some _ _).symm.trans H; rw [hy155]; with_reducible exact H2_) | (have H2_ := (Option.bind_some _ _).symm.trans H; with_reducible exact H2_) | with_reducible exact H | (rw [hy155]; exact H) | exact H
                    have Ny155 := Aside0.mk hy155
                    clear hy155
                    by_cases c27 : y155.length < 5864062014805
                    · rw [if_pos c27] at H
                      have LMc27 := Aside0.mk c27
                      clear c27
                      obtain ⟨y158, hy158⟩ : ∃ y_ : List (S30), y_ = (y155 ++ [(⟨wrap64 (4 + (wrap64 (2 * x7_2))), wrap64 (3 + (wrap64 (2 * x7_2))), 5⟩ : S30)]) := ⟨_, rfl⟩
                      replace H : (if x5_2.length < 17592186044416 then ((some (x5_2 ++ [t142] : List Int)).bind fun y161 => (if y161.length < 17592186044416 then (racewaylaw15_DecompLoops.l0 k2 l0 (y161 ++ [t142]) x6_2 (wrap64 (x7_2 + 1)) (wrap64 (2 + (wrap64 (2 * (l0.length : Int))))) 1 2 y158) else (none))) else (none)) = some r := by first | (rw [hy158]; with_reducible exact H) | (have H2_ := (Option.bind_some _ _).symm.trans H; rw [hy158]; with_reducible exact H2_) | (have H2_ := (Option.bind_some _ _).symm.trans H; with_reducible exact H2_) | with_reducible exact H | (rw [hy158]; exact H) | exact H
                      have Ny158 := Aside0.mk hy158
                      clear hy158
                      by_cases c28 : x5_2.length < 17592186044416
                      · rw [if_pos c28] at H
                        have LMc28 := Aside0.mk c28
                        clear c28
                        obtain ⟨y161, hy161⟩ : ∃ y_ : List Int, y_ = (x5_2 ++ [t142]) := ⟨_, rfl⟩
                        replace H : (if y161.length < 17592186044416 then (racewaylaw15_DecompLoops.l0 k2 l0 (y161 ++ [t142]) x6_2 (wrap64 (x7_2 + 1)) (wrap64 (2 + (wrap64 (2 * (l0.length : Int))))) 1 2 y158) else (none)) = some r := by first | (rw [hy161]; with_reducible exact H) | (have H2_ := (Option.bind_some _ _).symm.trans H; rw [hy161]; with_reducible exact H2_) | (have H2_ := (Option.bind_some _ _).symm.trans H; with_reducible exact H2_) | with_reducible exact H | (rw [hy161]; exact H) | exact H
                        have Ny161 := Aside0.mk hy161
                        clear hy161
                        by_cases c29 : y161.length < 17592186044416
                        · rw [if_pos c29] at H
                          have LMc29 := Aside0.mk c29
                          clear c29
                          obtain ⟨y164, hy164⟩ : ∃ y_ : List Int, y_ = (y161 ++ [t142]) := ⟨_, rfl⟩
                          replace H : (racewaylaw15_DecompLoops.l0 k2 l0 y164 x6_2 (wrap64 (x7_2 + 1)) (wrap64 (2 + (wrap64 (2 * (l0.length : Int))))) 1 2 y158) = some r := by first | (rw [hy164]; with_reducible exact H) | (have H2_ := (Option.bind_some _ _).symm.trans H; rw [hy164]; with_reducible exact H2_) | (have H2_ := (Option.bind_some _ _).symm.trans H; with_reducible exact H2_) | with_reducible exact H | (rw [hy164]; exact H) | exact H
                          have Ny164 := Aside0.mk hy164
                          clear hy164
                          as_aux_lemma =>
                            have H' := Aside0.mk H
                            clear H
                            have p141 : 0 ≤ (x7_2 : Int) := of_decide_eq_true (by first | (with_reducible assumption) | assumption)
                            have q141 : x7_2 < (l0.length : Int) := of_decide_eq_true (by first | (with_reducible assumption) | assumption)
                            obtain ⟨ad141, e141, hx141_0⟩ := Kd.at_int HR0.out x7_2 p141 q141
                            cases e141
                            replace hx141_0 := (HB.out.cell (World.block_lt_of_cell? w _ hx141_0)).trans hx141_0
                            replace p141 := eq_true p141
                            replace q141 := eq_true q141
                            go_wp2_with (first | (go_at_call 9; (with_reducible refine (racewaylaw15_pick.calls (rd l0 x7_2) 5 t142 _ A11.out).mono ?_); rintro e w' ⟨rfl, ⟨nd, rfl⟩⟩; (try first | exact ⟨rfl, _, World.drewN_drewN _ _ _⟩ | exact ⟨rfl, _, Eq.trans (World.drewN_drewN _ _ _) (congrArg (World.drewN _) (Nat.add_assoc _ _ _))⟩); have hcz30_0 : wr.cell? ⟨gb140, 0, none⟩ = some (.int .i64 (wrap64 (2 + (wrap64 (2 * (l0.length : Int)))))) := (blk_cell BK140.out 0).trans rfl; have hcz30_1 : wr.cell? ⟨gb140, 1, none⟩ = some (.int .i64 1) := (blk_cell BK140.out 1).trans rfl; have hcz30_2 : wr.cell? ⟨gb140, 2, none⟩ = some (.int .i64 2) := (blk_cell BK140.out 2).trans rfl; have hcz30_3 : wr.cell? ⟨gb140, 3, none⟩ = some (u141003) := (blk_cell BK140.out 3).trans rfl; have hfz30_0 := blk_frozen BK140.out 0; have hfz30_1 := blk_frozen BK140.out 1; have hfz30_2 := blk_frozen BK140.out 2; have hfz30_3 := blk_frozen BK140.out 3) | ((with_reducible refine gate_builtin (b := .append) (xs := #[.tmp 43, .tmp 51]) rfl ?_); (try (refine gate_guard (by rfl) ?_; dsimp only)); at_builtin; refine Kd.R_append k30 (w0 := w) w.heap.size rfl (.tmp 43) (.tmp 51) 24 30 (.agg #[(.int .i64 0), (.int .i64 0), (.int .i64 0)]) 24 rfl Try.underlying24 info30 rfl (by decide) (by omega) u141003 x141003_2 (⟨wrap64 (3 + (wrap64 (2 * x7_2))), wrap64 (4 + (wrap64 (2 * x7_2))), 5⟩ : S30) [.int .i64 (wrap64 (3 + (wrap64 (2 * x7_2)))), .int .i64 (wrap64 (4 + (wrap64 (2 * x7_2)))), .int .i64 5] (fun _ => True) (fun _ => False) rfl rfl ?aP (fun _ hk => hk.elim) ?aF ?aO ?aB ?aS ?aL ?_; (case aP => exact k30_mkM _ _ _ (⟨wrap64 (3 + (wrap64 (2 * x7_2))), wrap64 (4 + (wrap64 (2 * x7_2))), 5⟩ : S30)); (case aB => exact (by repeat (first | (with_reducible first | exact HB.out | apply below_alloc | apply pw_below_drewN | apply below_drew1 | refine below_set ?_ GE140.out) | exact HB.out))); (case aF => exact (fun _ _ => trivial)); (case aO => exact (by (with_reducible repeat (first | apply Kd.R_alloc | apply Kd.R_drewN | apply Kd.R_drew)); exact HO_141003.out)); (case aS => exact (below_size (by repeat (first | (with_reducible first | exact HB.out | apply below_alloc | apply pw_below_drewN | apply below_drew1 | refine below_set ?_ GE140.out) | exact HB.out)))); (case aL => have := LMc26.out; omega); intro v156 w31 ho hb hg hat; rw [← Ny155.out] at ho; have n0_ := Aside0.mk (Kd.R_over' (by (with_reducible repeat (first | apply Kd.R_alloc | apply Kd.R_drewN | apply Kd.R_drew)); exact HO_5.out) (Kd.R_typed (by (with_reducible repeat (first | apply Kd.R_alloc | apply Kd.R_drewN | apply Kd.R_drew)); exact HO_141003.out)) (by decide) hg); have n1_ := Aside0.mk (blk_grown (g := gb140) (o := .cells #[.int .i64 (wrap64 (2 + (wrap64 (2 * (l0.length : Int))))), .int .i64 1, .int .i64 2, u141003] 26 (0, 0)) (by (with_reducible repeat (first | refine blk_drewN ?_ _ | refine blk_drew ?_ | refine blk_alloc ?_ _)); exact BK140.out) hg (Kd.R_ne HO_141003.out BK140.out (by decide))); have n2_ := Aside0.mk (hb); have n3_ := Aside0.mk (ho); clear HO_5; clear BK140; clear HB; clear HO_141003; have HO_5 := n0_; have BK140 := n1_; have HB := n2_; have HO157 := n3_; clear n0_ n1_ n2_ n3_; clear ho hb hg hat; obtain ⟨Ao32, co32, eo32⟩ := Kd.R_slice HO157.out; subst eo32; have hcz33_0 : w31.cell? ⟨gb140, 0, none⟩ = some (.int .i64 (wrap64 (2 + (wrap64 (2 * (l0.length : Int)))))) := (blk_cell BK140.out 0).trans rfl; have hcz33_1 : w31.cell? ⟨gb140, 1, none⟩ = some (.int .i64 1) := (blk_cell BK140.out 1).trans rfl; have hcz33_2 : w31.cell? ⟨gb140, 2, none⟩ = some (.int .i64 2) := (blk_cell BK140.out 2).trans rfl; have hcz33_3 : w31.cell? ⟨gb140, 3, none⟩ = some (u141003) := (blk_cell BK140.out 3).trans rfl; have hfz33_0 := blk_frozen BK140.out 0; have hfz33_1 := blk_frozen BK140.out 1; have hfz33_2 := blk_frozen BK140.out 2; have hfz33_3 := blk_frozen BK140.out 3) | ((with_reducible refine gate_builtin (b := .append) (xs := #[.tmp 55, .tmp 63]) rfl ?_); (try (refine gate_guard (by rfl) ?_; dsimp only)); at_builtin; refine Kd.R_append k30 (w0 := w) w.heap.size rfl (.tmp 55) (.tmp 63) 24 30 (.agg #[(.int .i64 0), (.int .i64 0), (.int .i64 0)]) 24 rfl Try.underlying24 info30 rfl (by decide) (by omega) (.slice Ao32 y155.length co32) y155 (⟨wrap64 (4 + (wrap64 (2 * x7_2))), wrap64 (3 + (wrap64 (2 * x7_2))), 5⟩ : S30) [.int .i64 (wrap64 (4 + (wrap64 (2 * x7_2)))), .int .i64 (wrap64 (3 + (wrap64 (2 * x7_2)))), .int .i64 5] (fun _ => True) (fun _ => False) rfl (by first | (go_simp; done) | (go_simp; rfl)) ?aP (fun _ hk => hk.elim) ?aF ?aO ?aB ?aS ?aL ?_; (case aP => exact k30_mkM _ _ _ (⟨wrap64 (4 + (wrap64 (2 * x7_2))), wrap64 (3 + (wrap64 (2 * x7_2))), 5⟩ : S30)); (case aB => exact (by repeat (first | (with_reducible first | exact HB.out | apply below_alloc | apply pw_below_drewN | apply below_drew1 | refine below_set ?_ GE140.out) | exact HB.out))); (case aF => exact (fun _ _ => trivial)); (case aO => exact (by (with_reducible repeat (first | apply Kd.R_alloc | apply Kd.R_drewN | apply Kd.R_drew)); exact Kd.R_mono (Kd.R_far (p := ⟨gb140, 3, none⟩) (Kd.R_types HO157.out BK140.out (by decide)) (fun _ hk => hk.2) (.slice Ao32 y155.length co32)) (fun _ hk => trivial))); (case aS => exact (below_size (by repeat (first | (with_reducible first | exact HB.out | apply below_alloc | apply pw_below_drewN | apply below_drew1 | refine below_set ?_ GE140.out) | exact HB.out)))); (case aL => have := LMc27.out; omega); intro v159 w34 ho hb hg hat; rw [← Ny158.out] at ho; have n0_ := Aside0.mk (Kd.R_over' (by (with_reducible repeat (first | apply Kd.R_alloc | apply Kd.R_drewN | apply Kd.R_drew)); exact (Kd.R_mono (Kd.R_far (p := ⟨gb140, 3, none⟩) (Kd.R_types HO_5.out BK140.out (by decide)) (fun _ hk => hk.2) (.slice Ao32 y155.length co32)) (fun _ h_ => h_.1))) (Kd.R_typed (by (with_reducible repeat (first | apply Kd.R_alloc | apply Kd.R_drewN | apply Kd.R_drew)); exact (Kd.R_mono (Kd.R_far (p := ⟨gb140, 3, none⟩) (Kd.R_types HO157.out BK140.out (by decide)) (fun _ hk => hk.2) (.slice Ao32 y155.length co32)) (fun _ h_ => h_.1)))) (by decide) hg); have n1_ := Aside0.mk (blk_grown (g := gb140) (o := .cells #[.int .i64 (wrap64 (2 + (wrap64 (2 * (l0.length : Int))))), .int .i64 1, .int .i64 2, .slice Ao32 y155.length co32] 26 (0, 0)) (by (with_reducible repeat (first | refine blk_drewN ?_ _ | refine blk_drew ?_ | refine blk_alloc ?_ _)); refine blk_put (cs := #[.int .i64 (wrap64 (2 + (wrap64 (2 * (l0.length : Int))))), .int .i64 1, .int .i64 2, u141003]) ?_ 3 _ rfl; (with_reducible repeat (first | refine blk_drewN ?_ _ | refine blk_drew ?_ | refine blk_alloc ?_ _)); exact BK140.out) hg (Kd.R_ne HO157.out BK140.out (by decide))); have n2_ := Aside0.mk (hb); have n3_ := Aside0.mk (ho); clear HO_5; clear BK140; clear HB; clear HO157; have HO_5 := n0_; have BK140 := n1_; have HB := n2_; have HO160 := n3_; clear n0_ n1_ n2_ n3_; clear ho hb hg hat; obtain ⟨Ao35, co35, eo35⟩ := Kd.R_slice HO160.out; subst eo35; have hcz36_0 : w34.cell? ⟨gb140, 0, none⟩ = some (.int .i64 (wrap64 (2 + (wrap64 (2 * (l0.length : Int)))))) := (blk_cell BK140.out 0).trans rfl; have hcz36_1 : w34.cell? ⟨gb140, 1, none⟩ = some (.int .i64 1) := (blk_cell BK140.out 1).trans rfl; have hcz36_2 : w34.cell? ⟨gb140, 2, none⟩ = some (.int .i64 2) := (blk_cell BK140.out 2).trans rfl; have hcz36_3 : w34.cell? ⟨gb140, 3, none⟩ = some (.slice Ao32 y155.length co32) := (blk_cell BK140.out 3).trans rfl; have hfz36_0 := blk_frozen BK140.out 0; have hfz36_1 := blk_frozen BK140.out 1; have hfz36_2 := blk_frozen BK140.out 2; have hfz36_3 := blk_frozen BK140.out 3) | ((with_reducible refine gate_builtin (b := .append) (xs := #[.tmp 66, .tmp 68]) rfl ?_); (try (refine gate_guard (by rfl) ?_; dsimp only)); at_builtin; refine Kd.R_append (Kd.int .i64) (w0 := w) w.heap.size rfl (.tmp 66) (.tmp 68) 27 2 (.int .i64 0) 8 rfl Try.underlying27 info2 rfl (by decide) (by omega) u5 x5_2 t142 [.int .i64 t142] (fun _ => True) (fun _ => False) rfl (by first | (go_simp; done) | (go_simp; rfl)) ?aP (fun _ hk => hk.elim) ?aF ?aO ?aB ?aS ?aL ?_; (case aP => exact rfl); (case aB => exact (by repeat (first | (with_reducible first | exact HB.out | apply below_alloc | apply pw_below_drewN | apply below_drew1 | refine below_set ?_ GE140.out) | exact HB.out))); (case aF => exact (fun _ _ => trivial)); (case aO => exact (by (with_reducible repeat (first | apply Kd.R_alloc | apply Kd.R_drewN | apply Kd.R_drew)); exact Kd.R_mono (Kd.R_far (p := ⟨gb140, 3, none⟩) (Kd.R_types HO_5.out BK140.out (by decide)) (fun _ hk => hk.2) (.slice Ao35 y158.length co35)) (fun _ hk => trivial))); (case aS => exact (below_size (by repeat (first | (with_reducible first | exact HB.out | apply below_alloc | apply pw_below_drewN | apply below_drew1 | refine below_set ?_ GE140.out) | exact HB.out)))); (case aL => have := LMc28.out; omega); intro v162 w37 ho hb hg hat; rw [← Ny161.out] at ho; have n0_ := Aside0.mk (blk_grown (g := gb140) (o := .cells #[.int .i64 (wrap64 (2 + (wrap64 (2 * (l0.length : Int))))), .int .i64 1, .int .i64 2, .slice Ao35 y158.length co35] 26 (0, 0)) (by (with_reducible repeat (first | refine blk_drewN ?_ _ | refine blk_drew ?_ | refine blk_alloc ?_ _)); refine blk_put (cs := #[.int .i64 (wrap64 (2 + (wrap64 (2 * (l0.length : Int))))), .int .i64 1, .int .i64 2, .slice Ao32 y155.length co32]) ?_ 3 _ rfl; (with_reducible repeat (first | refine blk_drewN ?_ _ | refine blk_drew ?_ | refine blk_alloc ?_ _)); exact BK140.out) hg (Kd.R_ne HO_5.out BK140.out (by decide))); have n1_ := Aside0.mk (Kd.R_over' (by (with_reducible repeat (first | apply Kd.R_alloc | apply Kd.R_drewN | apply Kd.R_drew)); exact (Kd.R_mono (Kd.R_far (p := ⟨gb140, 3, none⟩) (Kd.R_types HO160.out BK140.out (by decide)) (fun _ hk => hk.2) (.slice Ao35 y158.length co35)) (fun _ h_ => h_.1))) (Kd.R_typed (by (with_reducible repeat (first | apply Kd.R_alloc | apply Kd.R_drewN | apply Kd.R_drew)); exact (Kd.R_mono (Kd.R_far (p := ⟨gb140, 3, none⟩) (Kd.R_types HO_5.out BK140.out (by decide)) (fun _ hk => hk.2) (.slice Ao35 y158.length co35)) (fun _ h_ => h_.1)))) (by decide) hg); have n2_ := Aside0.mk (hb); have n3_ := Aside0.mk (ho); clear BK140; clear HO160; clear HB; clear HO_5; have BK140 := n0_; have HO160 := n1_; have HB := n2_; have HO163 := n3_; clear n0_ n1_ n2_ n3_; clear ho hb hg hat) | ((with_reducible refine gate_builtin (b := .append) (xs := #[.tmp 70, .tmp 72]) rfl ?_); (try (refine gate_guard (by rfl) ?_; dsimp only)); at_builtin; refine Kd.R_append (Kd.int .i64) (w0 := w) w.heap.size rfl (.tmp 70) (.tmp 72) 27 2 (.int .i64 0) 8 rfl Try.underlying27 info2 rfl (by decide) (by omega) v162 y161 t142 [.int .i64 t142] (fun _ => True) (fun _ => False) rfl rfl ?aP (fun _ hk => hk.elim) ?aF ?aO ?aB ?aS ?aL ?_; (case aP => exact rfl); (case aB => exact (by repeat (first | (with_reducible first | exact HB.out | apply below_alloc | apply pw_below_drewN | apply below_drew1 | refine below_set ?_ GE140.out) | exact HB.out))); (case aF => exact (fun _ _ => trivial)); (case aO => exact (by (with_reducible repeat (first | apply Kd.R_alloc | apply Kd.R_drewN | apply Kd.R_drew)); exact HO163.out)); (case aS => exact (below_size (by repeat (first | (with_reducible first | exact HB.out | apply below_alloc | apply pw_below_drewN | apply below_drew1 | refine below_set ?_ GE140.out) | exact HB.out)))); (case aL => have := LMc29.out; omega); intro v165 w38 ho hb hg hat; rw [← Ny164.out] at ho; have n0_ := Aside0.mk (blk_grown (g := gb140) (o := .cells #[.int .i64 (wrap64 (2 + (wrap64 (2 * (l0.length : Int))))), .int .i64 1, .int .i64 2, .slice Ao35 y158.length co35] 26 (0, 0)) (by (with_reducible repeat (first | refine blk_drewN ?_ _ | refine blk_drew ?_ | refine blk_alloc ?_ _)); exact BK140.out) hg (Kd.R_ne HO163.out BK140.out (by decide))); have n1_ := Aside0.mk (Kd.R_over' (by (with_reducible repeat (first | apply Kd.R_alloc | apply Kd.R_drewN | apply Kd.R_drew)); exact HO160.out) (Kd.R_typed (by (with_reducible repeat (first | apply Kd.R_alloc | apply Kd.R_drewN | apply Kd.R_drew)); exact HO163.out)) (by decide) hg); have n2_ := Aside0.mk (hb); have n3_ := Aside0.mk (ho); clear BK140; clear HO160; clear HB; clear HO163; have BK140 := n0_; have HO160 := n1_; have HB := n2_; have HO166 := n3_; clear n0_ n1_ n2_ n3_; clear ho hb hg hat))
                            repeat (go_quiet (first | (go_at_call 9; (with_reducible refine (racewaylaw15_pick.calls (rd l0 x7_2) 5 t142 _ A11.out).mono ?_); rintro e w' ⟨rfl, ⟨nd, rfl⟩⟩; (try first | exact ⟨rfl, _, World.drewN_drewN _ _ _⟩ | exact ⟨rfl, _, Eq.trans (World.drewN_drewN _ _ _) (congrArg (World.drewN _) (Nat.add_assoc _ _ _))⟩); have hcz30_0 : wr.cell? ⟨gb140, 0, none⟩ = some (.int .i64 (wrap64 (2 + (wrap64 (2 * (l0.length : Int)))))) := (blk_cell BK140.out 0).trans rfl; have hcz30_1 : wr.cell? ⟨gb140, 1, none⟩ = some (.int .i64 1) := (blk_cell BK140.out 1).trans rfl; have hcz30_2 : wr.cell? ⟨gb140, 2, none⟩ = some (.int .i64 2) := (blk_cell BK140.out 2).trans rfl; have hcz30_3 : wr.cell? ⟨gb140, 3, none⟩ = some (u141003) := (blk_cell BK140.out 3).trans rfl; have hfz30_0 := blk_frozen BK140.out 0; have hfz30_1 := blk_frozen BK140.out 1; have hfz30_2 := blk_frozen BK140.out 2; have hfz30_3 := blk_frozen BK140.out 3) | ((with_reducible refine gate_builtin (b := .append) (xs := #[.tmp 43, .tmp 51]) rfl ?_); (try (refine gate_guard (by rfl) ?_; dsimp only)); at_builtin; refine Kd.R_append k30 (w0 := w) w.heap.size rfl (.tmp 43) (.tmp 51) 24 30 (.agg #[(.int .i64 0), (.int .i64 0), (.int .i64 0)]) 24 rfl Try.underlying24 info30 rfl (by decide) (by omega) u141003 x141003_2 (⟨wrap64 (3 + (wrap64 (2 * x7_2))), wrap64 (4 + (wrap64 (2 * x7_2))), 5⟩ : S30) [.int .i64 (wrap64 (3 + (wrap64 (2 * x7_2)))), .int .i64 (wrap64 (4 + (wrap64 (2 * x7_2)))), .int .i64 5] (fun _ => True) (fun _ => False) rfl rfl ?aP (fun _ hk => hk.elim) ?aF ?aO ?aB ?aS ?aL ?_; (case aP => exact k30_mkM _ _ _ (⟨wrap64 (3 + (wrap64 (2 * x7_2))), wrap64 (4 + (wrap64 (2 * x7_2))), 5⟩ : S30)); (case aB => exact (by repeat (first | (with_reducible first | exact HB.out | apply below_alloc | apply pw_below_drewN | apply below_drew1 | refine below_set ?_ GE140.out) | exact HB.out))); (case aF => exact (fun _ _ => trivial)); (case aO => exact (by (with_reducible repeat (first | apply Kd.R_alloc | apply Kd.R_drewN | apply Kd.R_drew)); exact HO_141003.out)); (case aS => exact (below_size (by repeat (first | (with_reducible first | exact HB.out | apply below_alloc | apply pw_below_drewN | apply below_drew1 | refine below_set ?_ GE140.out) | exact HB.out)))); (case aL => have := LMc26.out; omega); intro v156 w31 ho hb hg hat; rw [← Ny155.out] at ho; have n0_ := Aside0.mk (Kd.R_over' (by (with_reducible repeat (first | apply Kd.R_alloc | apply Kd.R_drewN | apply Kd.R_drew)); exact HO_5.out) (Kd.R_typed (by (with_reducible repeat (first | apply Kd.R_alloc | apply Kd.R_drewN | apply Kd.R_drew)); exact HO_141003.out)) (by decide) hg); have n1_ := Aside0.mk (blk_grown (g := gb140) (o := .cells #[.int .i64 (wrap64 (2 + (wrap64 (2 * (l0.length : Int))))), .int .i64 1, .int .i64 2, u141003] 26 (0, 0)) (by (with_reducible repeat (first | refine blk_drewN ?_ _ | refine blk_drew ?_ | refine blk_alloc ?_ _)); exact BK140.out) hg (Kd.R_ne HO_141003.out BK140.out (by decide))); have n2_ := Aside0.mk (hb); have n3_ := Aside0.mk (ho); clear HO_5; clear BK140; clear HB; clear HO_141003; have HO_5 := n0_; have BK140 := n1_; have HB := n2_; have HO157 := n3_; clear n0_ n1_ n2_ n3_; clear ho hb hg hat; obtain ⟨Ao32, co32, eo32⟩ := Kd.R_slice HO157.out; subst eo32; have hcz33_0 : w31.cell? ⟨gb140, 0, none⟩ = some (.int .i64 (wrap64 (2 + (wrap64 (2 * (l0.length : Int)))))) := (blk_cell BK140.out 0).trans rfl; have hcz33_1 : w31.cell? ⟨gb140, 1, none⟩ = some (.int .i64 1) := (blk_cell BK140.out 1).trans rfl; have hcz33_2 : w31.cell? ⟨gb140, 2, none⟩ = some (.int .i64 2) := (blk_cell BK140.out 2).trans rfl; have hcz33_3 : w31.cell? ⟨gb140, 3, none⟩ = some (u141003) := (blk_cell BK140.out 3).trans rfl; have hfz33_0 := blk_frozen BK140.out 0; have hfz33_1 := blk_frozen BK140.out 1; have hfz33_2 := blk_frozen BK140.out 2; have hfz33_3 := blk_frozen BK140.out 3) | ((with_reducible refine gate_builtin (b := .append) (xs := #[.tmp 55, .tmp 63]) rfl ?_); (try (refine gate_guard (by rfl) ?_; dsimp only)); at_builtin; refine Kd.R_append k30 (w0 := w) w.heap.size rfl (.tmp 55) (.tmp 63) 24 30 (.agg #[(.int .i64 0), (.int .i64 0), (.int .i64 0)]) 24 rfl Try.underlying24 info30 rfl (by decide) (by omega) (.slice Ao32 y155.length co32) y155 (⟨wrap64 (4 + (wrap64 (2 * x7_2))), wrap64 (3 + (wrap64 (2 * x7_2))), 5⟩ : S30) [.int .i64 (wrap64 (4 + (wrap64 (2 * x7_2)))), .int .i64 (wrap64 (3 + (wrap64 (2 * x7_2)))), .int .i64 5] (fun _ => True) (fun _ => False) rfl (by first | (go_simp; done) | (go_simp; rfl)) ?aP (fun _ hk => hk.elim) ?aF ?aO ?aB ?aS ?aL ?_; (case aP => exact k30_mkM _ _ _ (⟨wrap64 (4 + (wrap64 (2 * x7_2))), wrap64 (3 + (wrap64 (2 * x7_2))), 5⟩ : S30)); (case aB => exact (by repeat (first | (with_reducible first | exact HB.out | apply below_alloc | apply pw_below_drewN | apply below_drew1 | refine below_set ?_ GE140.out) | exact HB.out))); (case aF => exact (fun _ _ => trivial)); (case aO => exact (by (with_reducible repeat (first | apply Kd.R_alloc | apply Kd.R_drewN | apply Kd.R_drew)); exact Kd.R_mono (Kd.R_far (p := ⟨gb140, 3, none⟩) (Kd.R_types HO157.out BK140.out (by decide)) (fun _ hk => hk.2) (.slice Ao32 y155.length co32)) (fun _ hk => trivial))); (case aS => exact (below_size (by repeat (first | (with_reducible first | exact HB.out | apply below_alloc | apply pw_below_drewN | apply below_drew1 | refine below_set ?_ GE140.out) | exact HB.out)))); (case aL => have := LMc27.out; omega); intro v159 w34 ho hb hg hat; rw [← Ny158.out] at ho; have n0_ := Aside0.mk (Kd.R_over' (by (with_reducible repeat (first | apply Kd.R_alloc | apply Kd.R_drewN | apply Kd.R_drew)); exact (Kd.R_mono (Kd.R_far (p := ⟨gb140, 3, none⟩) (Kd.R_types HO_5.out BK140.out (by decide)) (fun _ hk => hk.2) (.slice Ao32 y155.length co32)) (fun _ h_ => h_.1))) (Kd.R_typed (by (with_reducible repeat (first | apply Kd.R_alloc | apply Kd.R_drewN | apply Kd.R_drew)); exact (Kd.R_mono (Kd.R_far (p := ⟨gb140, 3, none⟩) (Kd.R_types HO157.out BK140.out (by decide)) (fun _ hk => hk.2) (.slice Ao32 y155.length co32)) (fun _ h_ => h_.1)))) (by decide) hg); have n1_ := Aside0.mk (blk_grown (g := gb140) (o := .cells #[.int .i64 (wrap64 (2 + (wrap64 (2 * (l0.length : Int))))), .int .i64 1, .int .i64 2, .slice Ao32 y155.length co32] 26 (0, 0)) (by (with_reducible repeat (first | refine blk_drewN ?_ _ | refine blk_drew ?_ | refine blk_alloc ?_ _)); refine blk_put (cs := #[.int .i64 (wrap64 (2 + (wrap64 (2 * (l0.length : Int))))), .int .i64 1, .int .i64 2, u141003]) ?_ 3 _ rfl; (with_reducible repeat (first | refine blk_drewN ?_ _ | refine blk_drew ?_ | refine blk_alloc ?_ _)); exact BK140.out) hg (Kd.R_ne HO157.out BK140.out (by decide))); have n2_ := Aside0.mk (hb); have n3_ := Aside0.mk (ho); clear HO_5; clear BK140; clear HB; clear HO157; have HO_5 := n0_; have BK140 := n1_; have HB := n2_; have HO160 := n3_; clear n0_ n1_ n2_ n3_; clear ho hb hg hat; obtain ⟨Ao35, co35, eo35⟩ := Kd.R_slice HO160.out; subst eo35; have hcz36_0 : w34.cell? ⟨gb140, 0, none⟩ = some (.int .i64 (wrap64 (2 + (wrap64 (2 * (l0.length : Int)))))) := (blk_cell BK140.out 0).trans rfl; have hcz36_1 : w34.cell? ⟨gb140, 1, none⟩ = some (.int .i64 1) := (blk_cell BK140.out 1).trans rfl; have hcz36_2 : w34.cell? ⟨gb140, 2, none⟩ = some (.int .i64 2) := (blk_cell BK140.out 2).trans rfl; have hcz36_3 : w34.cell? ⟨gb140, 3, none⟩ = some (.slice Ao32 y155.length co32) := (blk_cell BK140.out 3).trans rfl; have hfz36_0 := blk_frozen BK140.out 0; have hfz36_1 := blk_frozen BK140.out 1; have hfz36_2 := blk_frozen BK140.out 2; have hfz36_3 := blk_frozen BK140.out 3) | ((with_reducible refine gate_builtin (b := .append) (xs := #[.tmp 66, .tmp 68]) rfl ?_); (try (refine gate_guard (by rfl) ?_; dsimp only)); at_builtin; refine Kd.R_append (Kd.int .i64) (w0 := w) w.heap.size rfl (.tmp 66) (.tmp 68) 27 2 (.int .i64 0) 8 rfl Try.underlying27 info2 rfl (by decide) (by omega) u5 x5_2 t142 [.int .i64 t142] (fun _ => True) (fun _ => False) rfl (by first | (go_simp; done) | (go_simp; rfl)) ?aP (fun _ hk => hk.elim) ?aF ?aO ?aB ?aS ?aL ?_; (case aP => exact rfl); (case aB => exact (by repeat (first | (with_reducible first | exact HB.out | apply below_alloc | apply pw_below_drewN | apply below_drew1 | refine below_set ?_ GE140.out) | exact HB.out))); (case aF => exact (fun _ _ => trivial)); (case aO => exact (by (with_reducible repeat (first | apply Kd.R_alloc | apply Kd.R_drewN | apply Kd.R_drew)); exact Kd.R_mono (Kd.R_far (p := ⟨gb140, 3, none⟩) (Kd.R_types HO_5.out BK140.out (by decide)) (fun _ hk => hk.2) (.slice Ao35 y158.length co35)) (fun _ hk => trivial))); (case aS => exact (below_size (by repeat (first | (with_reducible first | exact HB.out | apply below_alloc | apply pw_below_drewN | apply below_drew1 | refine below_set ?_ GE140.out) | exact HB.out)))); (case aL => have := LMc28.out; omega); intro v162 w37 ho hb hg hat; rw [← Ny161.out] at ho; have n0_ := Aside0.mk (blk_grown (g := gb140) (o := .cells #[.int .i64 (wrap64 (2 + (wrap64 (2 * (l0.length : Int))))), .int .i64 1, .int .i64 2, .slice Ao35 y158.length co35] 26 (0, 0)) (by (with_reducible repeat (first | refine blk_drewN ?_ _ | refine blk_drew ?_ | refine blk_alloc ?_ _)); refine blk_put (cs := #[.int .i64 (wrap64 (2 + (wrap64 (2 * (l0.length : Int))))), .int .i64 1, .int .i64 2, .slice Ao32 y155.length co32]) ?_ 3 _ rfl; (with_reducible repeat (first | refine blk_drewN ?_ _ | refine blk_drew ?_ | refine blk_alloc ?_ _)); exact BK140.out) hg (Kd.R_ne HO_5.out BK140.out (by decide))); have n1_ := Aside0.mk (Kd.R_over' (by (with_reducible repeat (first | apply Kd.R_alloc | apply Kd.R_drewN | apply Kd.R_drew)); exact (Kd.R_mono (Kd.R_far (p := ⟨gb140, 3, none⟩) (Kd.R_types HO160.out BK140.out (by decide)) (fun _ hk => hk.2) (.slice Ao35 y158.length co35)) (fun _ h_ => h_.1))) (Kd.R_typed (by (with_reducible repeat (first | apply Kd.R_alloc | apply Kd.R_drewN | apply Kd.R_drew)); exact (Kd.R_mono (Kd.R_far (p := ⟨gb140, 3, none⟩) (Kd.R_types HO_5.out BK140.out (by decide)) (fun _ hk => hk.2) (.slice Ao35 y158.length co35)) (fun _ h_ => h_.1)))) (by decide) hg); have n2_ := Aside0.mk (hb); have n3_ := Aside0.mk (ho); clear BK140; clear HO160; clear HB; clear HO_5; have BK140 := n0_; have HO160 := n1_; have HB := n2_; have HO163 := n3_; clear n0_ n1_ n2_ n3_; clear ho hb hg hat) | ((with_reducible refine gate_builtin (b := .append) (xs := #[.tmp 70, .tmp 72]) rfl ?_); (try (refine gate_guard (by rfl) ?_; dsimp only)); at_builtin; refine Kd.R_append (Kd.int .i64) (w0 := w) w.heap.size rfl (.tmp 70) (.tmp 72) 27 2 (.int .i64 0) 8 rfl Try.underlying27 info2 rfl (by decide) (by omega) v162 y161 t142 [.int .i64 t142] (fun _ => True) (fun _ => False) rfl rfl ?aP (fun _ hk => hk.elim) ?aF ?aO ?aB ?aS ?aL ?_; (case aP => exact rfl); (case aB => exact (by repeat (first | (with_reducible first | exact HB.out | apply below_alloc | apply pw_below_drewN | apply below_drew1 | refine below_set ?_ GE140.out) | exact HB.out))); (case aF => exact (fun _ _ => trivial)); (case aO => exact (by (with_reducible repeat (first | apply Kd.R_alloc | apply Kd.R_drewN | apply Kd.R_drew)); exact HO163.out)); (case aS => exact (below_size (by repeat (first | (with_reducible first | exact HB.out | apply below_alloc | apply pw_below_drewN | apply below_drew1 | refine below_set ?_ GE140.out) | exact HB.out)))); (case aL => have := LMc29.out; omega); intro v165 w38 ho hb hg hat; rw [← Ny164.out] at ho; have n0_ := Aside0.mk (blk_grown (g := gb140) (o := .cells #[.int .i64 (wrap64 (2 + (wrap64 (2 * (l0.length : Int))))), .int .i64 1, .int .i64 2, .slice Ao35 y158.length co35] 26 (0, 0)) (by (with_reducible repeat (first | refine blk_drewN ?_ _ | refine blk_drew ?_ | refine blk_alloc ?_ _)); exact BK140.out) hg (Kd.R_ne HO163.out BK140.out (by decide))); have n1_ := Aside0.mk (Kd.R_over' (by (with_reducible repeat (first | apply Kd.R_alloc | apply Kd.R_drewN | apply Kd.R_drew)); exact HO160.out) (Kd.R_typed (by (with_reducible repeat (first | apply Kd.R_alloc | apply Kd.R_drewN | apply Kd.R_drew)); exact HO163.out)) (by decide) hg); have n2_ := Aside0.mk (hb); have n3_ := Aside0.mk (ho); clear BK140; clear HO160; clear HB; clear HO163; have BK140 := n0_; have HO160 := n1_; have HB := n2_; have HO166 := n3_; clear n0_ n1_ n2_ n3_; clear ho hb hg hat)); try go_wp2_with (first | (go_at_call 9; (with_reducible refine (racewaylaw15_pick.calls (rd l0 x7_2) 5 t142 _ A11.out).mono ?_); rintro e w' ⟨rfl, ⟨nd, rfl⟩⟩; (try first | exact ⟨rfl, _, World.drewN_drewN _ _ _⟩ | exact ⟨rfl, _, Eq.trans (World.drewN_drewN _ _ _) (congrArg (World.drewN _) (Nat.add_assoc _ _ _))⟩); have hcz30_0 : wr.cell? ⟨gb140, 0, none⟩ = some (.int .i64 (wrap64 (2 + (wrap64 (2 * (l0.length : Int)))))) := (blk_cell BK140.out 0).trans rfl; have hcz30_1 : wr.cell? ⟨gb140, 1, none⟩ = some (.int .i64 1) := (blk_cell BK140.out 1).trans rfl; have hcz30_2 : wr.cell? ⟨gb140, 2, none⟩ = some (.int .i64 2) := (blk_cell BK140.out 2).trans rfl; have hcz30_3 : wr.cell? ⟨gb140, 3, none⟩ = some (u141003) := (blk_cell BK140.out 3).trans rfl; have hfz30_0 := blk_frozen BK140.out 0; have hfz30_1 := blk_frozen BK140.out 1; have hfz30_2 := blk_frozen BK140.out 2; have hfz30_3 := blk_frozen BK140.out 3) | ((with_reducible refine gate_builtin (b := .append) (xs := #[.tmp 43, .tmp 51]) rfl ?_); (try (refine gate_guard (by rfl) ?_; dsimp only)); at_builtin; refine Kd.R_append k30 (w0 := w) w.heap.size rfl (.tmp 43) (.tmp 51) 24 30 (.agg #[(.int .i64 0), (.int .i64 0), (.int .i64 0)]) 24 rfl Try.underlying24 info30 rfl (by decide) (by omega) u141003 x141003_2 (⟨wrap64 (3 + (wrap64 (2 * x7_2))), wrap64 (4 + (wrap64 (2 * x7_2))), 5⟩ : S30) [.int .i64 (wrap64 (3 + (wrap64 (2 * x7_2)))), .int .i64 (wrap64 (4 + (wrap64 (2 * x7_2)))), .int .i64 5] (fun _ => True) (fun _ => False) rfl rfl ?aP (fun _ hk => hk.elim) ?aF ?aO ?aB ?aS ?aL ?_; (case aP => exact k30_mkM _ _ _ (⟨wrap64 (3 + (wrap64 (2 * x7_2))), wrap64 (4 + (wrap64 (2 * x7_2))), 5⟩ : S30)); (case aB => exact (by repeat (first | (with_reducible first | exact HB.out | apply below_alloc | apply pw_below_drewN | apply below_drew1 | refine below_set ?_ GE140.out) | exact HB.out))); (case aF => exact (fun _ _ => trivial)); (case aO => exact (by (with_reducible repeat (first | apply Kd.R_alloc | apply Kd.R_drewN | apply Kd.R_drew)); exact HO_141003.out)); (case aS => exact (below_size (by repeat (first | (with_reducible first | exact HB.out | apply below_alloc | apply pw_below_drewN | apply below_drew1 | refine below_set ?_ GE140.out) | exact HB.out)))); (case aL => have := LMc26.out; omega); intro v156 w31 ho hb hg hat; rw [← Ny155.out] at ho; have n0_ := Aside0.mk (Kd.R_over' (by (with_reducible repeat (first | apply Kd.R_alloc | apply Kd.R_drewN | apply Kd.R_drew)); exact HO_5.out) (Kd.R_typed (by (with_reducible repeat (first | apply Kd.R_alloc | apply Kd.R_drewN | apply Kd.R_drew)); exact HO_141003.out)) (by decide) hg); have n1_ := Aside0.mk (blk_grown (g := gb140) (o := .cells #[.int .i64 (wrap64 (2 + (wrap64 (2 * (l0.length : Int))))), .int .i64 1, .int .i64 2, u141003] 26 (0, 0)) (by (with_reducible repeat (first | refine blk_drewN ?_ _ | refine blk_drew ?_ | refine blk_alloc ?_ _)); exact BK140.out) hg (Kd.R_ne HO_141003.out BK140.out (by decide))); have n2_ := Aside0.mk (hb); have n3_ := Aside0.mk (ho); clear HO_5; clear BK140; clear HB; clear HO_141003; have HO_5 := n0_; have BK140 := n1_; have HB := n2_; have HO157 := n3_; clear n0_ n1_ n2_ n3_; clear ho hb hg hat; obtain ⟨Ao32, co32, eo32⟩ := Kd.R_slice HO157.out; subst eo32; have hcz33_0 : w31.cell? ⟨gb140, 0, none⟩ = some (.int .i64 (wrap64 (2 + (wrap64 (2 * (l0.length : Int)))))) := (blk_cell BK140.out 0).trans rfl; have hcz33_1 : w31.cell? ⟨gb140, 1, none⟩ = some (.int .i64 1) := (blk_cell BK140.out 1).trans rfl; have hcz33_2 : w31.cell? ⟨gb140, 2, none⟩ = some (.int .i64 2) := (blk_cell BK140.out 2).trans rfl; have hcz33_3 : w31.cell? ⟨gb140, 3, none⟩ = some (u141003) := (blk_cell BK140.out 3).trans rfl; have hfz33_0 := blk_frozen BK140.out 0; have hfz33_1 := blk_frozen BK140.out 1; have hfz33_2 := blk_frozen BK140.out 2; have hfz33_3 := blk_frozen BK140.out 3) | ((with_reducible refine gate_builtin (b := .append) (xs := #[.tmp 55, .tmp 63]) rfl ?_); (try (refine gate_guard (by rfl) ?_; dsimp only)); at_builtin; refine Kd.R_append k30 (w0 := w) w.heap.size rfl (.tmp 55) (.tmp 63) 24 30 (.agg #[(.int .i64 0), (.int .i64 0), (.int .i64 0)]) 24 rfl Try.underlying24 info30 rfl (by decide) (by omega) (.slice Ao32 y155.length co32) y155 (⟨wrap64 (4 + (wrap64 (2 * x7_2))), wrap64 (3 + (wrap64 (2 * x7_2))), 5⟩ : S30) [.int .i64 (wrap64 (4 + (wrap64 (2 * x7_2)))), .int .i64 (wrap64 (3 + (wrap64 (2 * x7_2)))), .int .i64 5] (fun _ => True) (fun _ => False) rfl (by first | (go_simp; done) | (go_simp; rfl)) ?aP (fun _ hk => hk.elim) ?aF ?aO ?aB ?aS ?aL ?_; (case aP => exact k30_mkM _ _ _ (⟨wrap64 (4 + (wrap64 (2 * x7_2))), wrap64 (3 + (wrap64 (2 * x7_2))), 5⟩ : S30)); (case aB => exact (by repeat (first | (with_reducible first | exact HB.out | apply below_alloc | apply pw_below_drewN | apply below_drew1 | refine below_set ?_ GE140.out) | exact HB.out))); (case aF => exact (fun _ _ => trivial)); (case aO => exact (by (with_reducible repeat (first | apply Kd.R_alloc | apply Kd.R_drewN | apply Kd.R_drew)); exact Kd.R_mono (Kd.R_far (p := ⟨gb140, 3, none⟩) (Kd.R_types HO157.out BK140.out (by decide)) (fun _ hk => hk.2) (.slice Ao32 y155.length co32)) (fun _ hk => trivial))); (case aS => exact (below_size (by repeat (first | (with_reducible first | exact HB.out | apply below_alloc | apply pw_below_drewN | apply below_drew1 | refine below_set ?_ GE140.out) | exact HB.out)))); (case aL => have := LMc27.out; omega); intro v159 w34 ho hb hg hat; rw [← Ny158.out] at ho; have n0_ := Aside0.mk (Kd.R_over' (by (with_reducible repeat (first | apply Kd.R_alloc | apply Kd.R_drewN | apply Kd.R_drew)); exact (Kd.R_mono (Kd.R_far (p := ⟨gb140, 3, none⟩) (Kd.R_types HO_5.out BK140.out (by decide)) (fun _ hk => hk.2) (.slice Ao32 y155.length co32)) (fun _ h_ => h_.1))) (Kd.R_typed (by (with_reducible repeat (first | apply Kd.R_alloc | apply Kd.R_drewN | apply Kd.R_drew)); exact (Kd.R_mono (Kd.R_far (p := ⟨gb140, 3, none⟩) (Kd.R_types HO157.out BK140.out (by decide)) (fun _ hk => hk.2) (.slice Ao32 y155.length co32)) (fun _ h_ => h_.1)))) (by decide) hg); have n1_ := Aside0.mk (blk_grown (g := gb140) (o := .cells #[.int .i64 (wrap64 (2 + (wrap64 (2 * (l0.length : Int))))), .int .i64 1, .int .i64 2, .slice Ao32 y155.length co32] 26 (0, 0)) (by (with_reducible repeat (first | refine blk_drewN ?_ _ | refine blk_drew ?_ | refine blk_alloc ?_ _)); refine blk_put (cs := #[.int .i64 (wrap64 (2 + (wrap64 (2 * (l0.length : Int))))), .int .i64 1, .int .i64 2, u141003]) ?_ 3 _ rfl; (with_reducible repeat (first | refine blk_drewN ?_ _ | refine blk_drew ?_ | refine blk_alloc ?_ _)); exact BK140.out) hg (Kd.R_ne HO157.out BK140.out (by decide))); have n2_ := Aside0.mk (hb); have n3_ := Aside0.mk (ho); clear HO_5; clear BK140; clear HB; clear HO157; have HO_5 := n0_; have BK140 := n1_; have HB := n2_; have HO160 := n3_; clear n0_ n1_ n2_ n3_; clear ho hb hg hat; obtain ⟨Ao35, co35, eo35⟩ := Kd.R_slice HO160.out; subst eo35; have hcz36_0 : w34.cell? ⟨gb140, 0, none⟩ = some (.int .i64 (wrap64 (2 + (wrap64 (2 * (l0.length : Int)))))) := (blk_cell BK140.out 0).trans rfl; have hcz36_1 : w34.cell? ⟨gb140, 1, none⟩ = some (.int .i64 1) := (blk_cell BK140.out 1).trans rfl; have hcz36_2 : w34.cell? ⟨gb140, 2, none⟩ = some (.int .i64 2) := (blk_cell BK140.out 2).trans rfl; have hcz36_3 : w34.cell? ⟨gb140, 3, none⟩ = some (.slice Ao32 y155.length co32) := (blk_cell BK140.out 3).trans rfl; have hfz36_0 := blk_frozen BK140.out 0; have hfz36_1 := blk_frozen BK140.out 1; have hfz36_2 := blk_frozen BK140.out 2; have hfz36_3 := blk_frozen BK140.out 3) | ((with_reducible refine gate_builtin (b := .append) (xs := #[.tmp 66, .tmp 68]) rfl ?_); (try (refine gate_guard (by rfl) ?_; dsimp only)); at_builtin; refine Kd.R_append (Kd.int .i64) (w0 := w) w.heap.size rfl (.tmp 66) (.tmp 68) 27 2 (.int .i64 0) 8 rfl Try.underlying27 info2 rfl (by decide) (by omega) u5 x5_2 t142 [.int .i64 t142] (fun _ => True) (fun _ => False) rfl (by first | (go_simp; done) | (go_simp; rfl)) ?aP (fun _ hk => hk.elim) ?aF ?aO ?aB ?aS ?aL ?_; (case aP => exact rfl); (case aB => exact (by repeat (first | (with_reducible first | exact HB.out | apply below_alloc | apply pw_below_drewN | apply below_drew1 | refine below_set ?_ GE140.out) | exact HB.out))); (case aF => exact (fun _ _ => trivial)); (case aO => exact (by (with_reducible repeat (first | apply Kd.R_alloc | apply Kd.R_drewN | apply Kd.R_drew)); exact Kd.R_mono (Kd.R_far (p := ⟨gb140, 3, none⟩) (Kd.R_types HO_5.out BK140.out (by decide)) (fun _ hk => hk.2) (.slice Ao35 y158.length co35)) (fun _ hk => trivial))); (case aS => exact (below_size (by repeat (first | (with_reducible first | exact HB.out | apply below_alloc | apply pw_below_drewN | apply below_drew1 | refine below_set ?_ GE140.out) | exact HB.out)))); (case aL => have := LMc28.out; omega); intro v162 w37 ho hb hg hat; rw [← Ny161.out] at ho; have n0_ := Aside0.mk (blk_grown (g := gb140) (o := .cells #[.int .i64 (wrap64 (2 + (wrap64 (2 * (l0.length : Int))))), .int .i64 1, .int .i64 2, .slice Ao35 y158.length co35] 26 (0, 0)) (by (with_reducible repeat (first | refine blk_drewN ?_ _ | refine blk_drew ?_ | refine blk_alloc ?_ _)); refine blk_put (cs := #[.int .i64 (wrap64 (2 + (wrap64 (2 * (l0.length : Int))))), .int .i64 1, .int .i64 2, .slice Ao32 y155.length co32]) ?_ 3 _ rfl; (with_reducible repeat (first | refine blk_drewN ?_ _ | refine blk_drew ?_ | refine blk_alloc ?_ _)); exact BK140.out) hg (Kd.R_ne HO_5.out BK140.out (by decide))); have n1_ := Aside0.mk (Kd.R_over' (by (with_reducible repeat (first | apply Kd.R_alloc | apply Kd.R_drewN | apply Kd.R_drew)); exact (Kd.R_mono (Kd.R_far (p := ⟨gb140, 3, none⟩) (Kd.R_types HO160.out BK140.out (by decide)) (fun _ hk => hk.2) (.slice Ao35 y158.length co35)) (fun _ h_ => h_.1))) (Kd.R_typed (by (with_reducible repeat (first | apply Kd.R_alloc | apply Kd.R_drewN | apply Kd.R_drew)); exact (Kd.R_mono (Kd.R_far (p := ⟨gb140, 3, none⟩) (Kd.R_types HO_5.out BK140.out (by decide)) (fun _ hk => hk.2) (.slice Ao35 y158.length co35)) (fun _ h_ => h_.1)))) (by decide) hg); have n2_ := Aside0.mk (hb); have n3_ := Aside0.mk (ho); clear BK140; clear HO160; clear HB; clear HO_5; have BK140 := n0_; have HO160 := n1_; have HB := n2_; have HO163 := n3_; clear n0_ n1_ n2_ n3_; clear ho hb hg hat) | ((with_reducible refine gate_builtin (b := .append) (xs := #[.tmp 70, .tmp 72]) rfl ?_); (try (refine gate_guard (by rfl) ?_; dsimp only)); at_builtin; refine Kd.R_append (Kd.int .i64) (w0 := w) w.heap.size rfl (.tmp 70) (.tmp 72) 27 2 (.int .i64 0) 8 rfl Try.underlying27 info2 rfl (by decide) (by omega) v162 y161 t142 [.int .i64 t142] (fun _ => True) (fun _ => False) rfl rfl ?aP (fun _ hk => hk.elim) ?aF ?aO ?aB ?aS ?aL ?_; (case aP => exact rfl); (case aB => exact (by repeat (first | (with_reducible first | exact HB.out | apply below_alloc | apply pw_below_drewN | apply below_drew1 | refine below_set ?_ GE140.out) | exact HB.out))); (case aF => exact (fun _ _ => trivial)); (case aO => exact (by (with_reducible repeat (first | apply Kd.R_alloc | apply Kd.R_drewN | apply Kd.R_drew)); exact HO163.out)); (case aS => exact (below_size (by repeat (first | (with_reducible first | exact HB.out | apply below_alloc | apply pw_below_drewN | apply below_drew1 | refine below_set ?_ GE140.out) | exact HB.out)))); (case aL => have := LMc29.out; omega); intro v165 w38 ho hb hg hat; rw [← Ny164.out] at ho; have n0_ := Aside0.mk (blk_grown (g := gb140) (o := .cells #[.int .i64 (wrap64 (2 + (wrap64 (2 * (l0.length : Int))))), .int .i64 1, .int .i64 2, .slice Ao35 y158.length co35] 26 (0, 0)) (by (with_reducible repeat (first | refine blk_drewN ?_ _ | refine blk_drew ?_ | refine blk_alloc ?_ _)); exact BK140.out) hg (Kd.R_ne HO163.out BK140.out (by decide))); have n1_ := Aside0.mk (Kd.R_over' (by (with_reducible repeat (first | apply Kd.R_alloc | apply Kd.R_drewN | apply Kd.R_drew)); exact HO160.out) (Kd.R_typed (by (with_reducible repeat (first | apply Kd.R_alloc | apply Kd.R_drewN | apply Kd.R_drew)); exact HO163.out)) (by decide) hg); have n2_ := Aside0.mk (hb); have n3_ := Aside0.mk (ho); clear BK140; clear HO160; clear HB; clear HO163; have BK140 := n0_; have HO160 := n1_; have HB := n2_; have HO166 := n3_; clear n0_ n1_ n2_ n3_; clear ho hb hg hat)))
                            go_roundg k2
                            case measure => have := HJ2.out; have := HK2.out; omega
                            case rel => exact ⟨(y164), (x6_2), (wrap64 (x7_2 + 1)), (y158), (.slice Ao35 y158.length co35), (by first | rfl | (simp; done) | (simp [*]; done)), (by first | rfl | (simp; done) | (simp [*]; done)), H', ⟨by have := HJ2.out; have := HK2.out; omega⟩, ⟨by (with_reducible repeat (first | apply Kd.R_alloc | apply Kd.R_drewN | apply Kd.R_drew)); exact HO166.out⟩, ⟨by (with_reducible repeat (first | apply Kd.R_alloc | apply Kd.R_drewN | apply Kd.R_drew)); exact HO160.out⟩, ⟨by (with_reducible repeat (first | refine blk_drewN ?_ _ | refine blk_drew ?_ | refine blk_alloc ?_ _)); exact BK140.out⟩, ⟨by repeat (first | (with_reducible first | exact HB.out | apply below_alloc | apply pw_below_drewN | apply below_drew1 | refine below_set ?_ GE140.out) | exact HB.out)⟩⟩
                        · rw [if_neg c29] at H
                          exact absurd H (by simp)
                      · rw [if_neg c28] at H
                        exact absurd H (by simp)
                    · rw [if_neg c27] at H
                      exact absurd H (by simp)
                  · rw [if_neg c26] at H
                    exact absurd H (by simp)
              · rw [if_neg c10] at H
                exact absurd H (by simp)
            · rw [if_neg c9] at H
              have c9b0 : decide (x7_2 < (l0.length : Int)) = false := decide_eq_false c9
              clear c9
              replace H := Option.bind_eq_some_iff.mp H
              obtain ⟨⟨t167, t170⟩, A390, H⟩ := H
              replace H : (if t170 = 0 then (racewaylaw15_DecompLoops.j2 k2 x5_2 t167 ((t167.length : Int) != x6_2)) else (racewaylaw15_DecompLoops.j2 k2 x5_2 t167 true)) = some r := H
              have A39 := Aside0.mk A390
              clear A390
              have HC40 := Aside0.mk H
              clear H
              have hcz41_0 : wr.cell? ⟨gb140, 0, none⟩ = some (.int .i64 (wrap64 (2 + (wrap64 (2 * (l0.length : Int)))))) := (blk_cell BK140.out 0).trans rfl
              have hcz41_1 : wr.cell? ⟨gb140, 1, none⟩ = some (.int .i64 1) := (blk_cell BK140.out 1).trans rfl
              have hcz41_2 : wr.cell? ⟨gb140, 2, none⟩ = some (.int .i64 2) := (blk_cell BK140.out 2).trans rfl
              have hcz41_3 : wr.cell? ⟨gb140, 3, none⟩ = some (u141003) := (blk_cell BK140.out 3).trans rfl
              have hfz41_0 := blk_frozen BK140.out 0
              have hfz41_1 := blk_frozen BK140.out 1
              have hfz41_2 := blk_frozen BK140.out 2
              have hfz41_3 := blk_frozen BK140.out 3
              obtain ⟨Ao42, co42, eo42⟩ := Kd.R_slice HO_141003.out
              subst eo42
              obtain ⟨Ao43, co43, eo43⟩ := Kd.R_slice HO_5.out
              subst eo43
              go_upto_region 18 with (first | (go_at_call 10; (with_reducible refine (decomp_Split.calls k2 (wrap64 (2 + (wrap64 (2 * (l0.length : Int))))) 1 2 _ _ x141003_2 _ _ x5_2 t167 t170 _ ?side1 ?side2 ?side3 ?side4 A39.out).mono ?_); (case side1 => repeat (first | exact (Kd.R_reads' HO_141003.out).2.2 | (with_reducible refine Kd.C_alloc ?_ _) | (with_reducible refine Kd.C_drewN ?_ _) | (with_reducible refine Kd.C_drew ?_))); (case side2 => exact (Kd.R_reads' HO_141003.out).2.1); (case side3 => repeat (first | exact (Kd.R_reads' HO_5.out).2.2 | (with_reducible refine Kd.C_alloc ?_ _) | (with_reducible refine Kd.C_drewN ?_ _) | (with_reducible refine Kd.C_drew ?_))); (case side4 => exact (Kd.R_reads' HO_5.out).2.1); rintro e w44 ⟨v168, rfl, ho0, hb⟩; have n0_ := Aside0.mk (Kd.R_below (by (with_reducible repeat (first | apply Kd.R_alloc | apply Kd.R_drewN | apply Kd.R_drew)); exact HO_5.out) hb); have n1_ := Aside0.mk (Kd.R_below (by (with_reducible repeat (first | apply Kd.R_alloc | apply Kd.R_drewN | apply Kd.R_drew)); exact HO_141003.out) hb); have n2_ := Aside0.mk (Kd.S_lower ho0 (below_size (by repeat (first | (with_reducible first | exact HB.out | apply below_alloc | apply pw_below_drewN | apply below_drew1 | refine below_set ?_ GE140.out) | exact HB.out)))); have n3_ := Aside0.mk (blk_below (g := gb140) (o := .cells #[.int .i64 (wrap64 (2 + (wrap64 (2 * (l0.length : Int))))), .int .i64 1, .int .i64 2, .slice Ao42 x141003_2.length co42] 26 (0, 0)) (by (with_reducible repeat (first | refine blk_drewN ?_ _ | refine blk_drew ?_ | refine blk_alloc ?_ _)); exact BK140.out) hb); have n4_ := Aside0.mk (below_step (by repeat (first | (with_reducible first | exact HB.out | apply below_alloc | apply pw_below_drewN | apply below_drew1 | refine below_set ?_ GE140.out) | exact HB.out)) hb); clear HO_5; clear HO_141003; clear BK140; clear HB; have HO_5 := n0_; have HO_141003 := n1_; have HO169 := n2_; have BK140 := n3_; have HB := n4_; clear n0_ n1_ n2_ n3_ n4_; (try clear hb); (try clear hb2); (try clear hk); (try clear hi); (try clear ho0)))
              repeat (go_quiet (first | (go_at_call 10; (with_reducible refine (decomp_Split.calls k2 (wrap64 (2 + (wrap64 (2 * (l0.length : Int))))) 1 2 _ _ x141003_2 _ _ x5_2 t167 t170 _ ?side1 ?side2 ?side3 ?side4 A39.out).mono ?_); (case side1 => repeat (first | exact (Kd.R_reads' HO_141003.out).2.2 | (with_reducible refine Kd.C_alloc ?_ _) | (with_reducible refine Kd.C_drewN ?_ _) | (with_reducible refine Kd.C_drew ?_))); (case side2 => exact (Kd.R_reads' HO_141003.out).2.1); (case side3 => repeat (first | exact (Kd.R_reads' HO_5.out).2.2 | (with_reducible refine Kd.C_alloc ?_ _) | (with_reducible refine Kd.C_drewN ?_ _) | (with_reducible refine Kd.C_drew ?_))); (case side4 => exact (Kd.R_reads' HO_5.out).2.1); rintro e w44 ⟨v168, rfl, ho0, hb⟩; have n0_ := Aside0.mk (Kd.R_below (by (with_reducible repeat (first | apply Kd.R_alloc | apply Kd.R_drewN | apply Kd.R_drew)); exact HO_5.out) hb); have n1_ := Aside0.mk (Kd.R_below (by (with_reducible repeat (first | apply Kd.R_alloc | apply Kd.R_drewN | apply Kd.R_drew)); exact HO_141003.out) hb); have n2_ := Aside0.mk (Kd.S_lower ho0 (below_size (by repeat (first | (with_reducible first | exact HB.out | apply below_alloc | apply pw_below_drewN | apply below_drew1 | refine below_set ?_ GE140.out) | exact HB.out)))); have n3_ := Aside0.mk (blk_below (g := gb140) (o := .cells #[.int .i64 (wrap64 (2 + (wrap64 (2 * (l0.length : Int))))), .int .i64 1, .int .i64 2, .slice Ao42 x141003_2.length co42] 26 (0, 0)) (by (with_reducible repeat (first | refine blk_drewN ?_ _ | refine blk_drew ?_ | refine blk_alloc ?_ _)); exact BK140.out) hb); have n4_ := Aside0.mk (below_step (by repeat (first | (with_reducible first | exact HB.out | apply below_alloc | apply pw_below_drewN | apply below_drew1 | refine below_set ?_ GE140.out) | exact HB.out)) hb); clear HO_5; clear HO_141003; clear BK140; clear HB; have HO_5 := n0_; have HO_141003 := n1_; have HO169 := n2_; have BK140 := n3_; have HB := n4_; clear n0_ n1_ n2_ n3_ n4_; (try clear hb); (try clear hb2); (try clear hk); (try clear hi); (try clear ho0))); go_upto_region 18 with (first | (go_at_call 10; (with_reducible refine (decomp_Split.calls k2 (wrap64 (2 + (wrap64 (2 * (l0.length : Int))))) 1 2 _ _ x141003_2 _ _ x5_2 t167 t170 _ ?side1 ?side2 ?side3 ?side4 A39.out).mono ?_); (case side1 => repeat (first | exact (Kd.R_reads' HO_141003.out).2.2 | (with_reducible refine Kd.C_alloc ?_ _) | (with_reducible refine Kd.C_drewN ?_ _) | (with_reducible refine Kd.C_drew ?_))); (case side2 => exact (Kd.R_reads' HO_141003.out).2.1); (case side3 => repeat (first | exact (Kd.R_reads' HO_5.out).2.2 | (with_reducible refine Kd.C_alloc ?_ _) | (with_reducible refine Kd.C_drewN ?_ _) | (with_reducible refine Kd.C_drew ?_))); (case side4 => exact (Kd.R_reads' HO_5.out).2.1); rintro e w44 ⟨v168, rfl, ho0, hb⟩; have n0_ := Aside0.mk (Kd.R_below (by (with_reducible repeat (first | apply Kd.R_alloc | apply Kd.R_drewN | apply Kd.R_drew)); exact HO_5.out) hb); have n1_ := Aside0.mk (Kd.R_below (by (with_reducible repeat (first | apply Kd.R_alloc | apply Kd.R_drewN | apply Kd.R_drew)); exact HO_141003.out) hb); have n2_ := Aside0.mk (Kd.S_lower ho0 (below_size (by repeat (first | (with_reducible first | exact HB.out | apply below_alloc | apply pw_below_drewN | apply below_drew1 | refine below_set ?_ GE140.out) | exact HB.out)))); have n3_ := Aside0.mk (blk_below (g := gb140) (o := .cells #[.int .i64 (wrap64 (2 + (wrap64 (2 * (l0.length : Int))))), .int .i64 1, .int .i64 2, .slice Ao42 x141003_2.length co42] 26 (0, 0)) (by (with_reducible repeat (first | refine blk_drewN ?_ _ | refine blk_drew ?_ | refine blk_alloc ?_ _)); exact BK140.out) hb); have n4_ := Aside0.mk (below_step (by repeat (first | (with_reducible first | exact HB.out | apply below_alloc | apply pw_below_drewN | apply below_drew1 | refine below_set ?_ GE140.out) | exact HB.out)) hb); clear HO_5; clear HO_141003; clear BK140; clear HB; have HO_5 := n0_; have HO_141003 := n1_; have HO169 := n2_; have BK140 := n3_; have HB := n4_; clear n0_ n1_ n2_ n3_ n4_; (try clear hb); (try clear hb2); (try clear hk); (try clear hi); (try clear ho0))))
              (try simp only [Act.put, List.setIfInBounds_toArray, List.set_cons_zero, List.set_cons_succ])
              go_cut [87] (fun v87 wc => ∃ (kq : Nat) (x87_39 : Bool), v87 = .bool x87_39 ∧ Aside0 (racewaylaw15_DecompLoops.j2 kq x5_2 t167 x87_39 = some r) ∧ Aside0 (kq ≤ k2) ∧ Aside0 (Kd.R (Kd.int .i64) 2 wc w.heap.size (fun _ => True) (.slice Ao43 x5_2.length co43) x5_2) ∧ Aside0 (Kd.S k36 36 wc w.heap.size (fun _ => True) v168 t167) ∧ Aside0 (Kd.R k30 30 wc w.heap.size (fun _ => True) (.slice Ao42 x141003_2.length co42) x141003_2) ∧ Aside0 (wc.heap[gb140]? = some (.cells #[.int .i64 (wrap64 (2 + (wrap64 (2 * (l0.length : Int))))), .int .i64 1, .int .i64 2, (.slice Ao42 x141003_2.length co42)] 26 (0, 0))) ∧ Aside0 (Below w.heap.size w wc))
              case first =>
                have H := HC40.out
                clear HC40
                by_cases c45 : t170 = 0
                · rw [if_pos c45] at H
                  have c45b0 : (t170 == 0) = true := beq_iff_eq.mpr c45
                  have c45b1 : (t170 != 0) = false := bne_eq_false_iff_eq.mpr c45
                  clear c45
                  (first | rw [c45b0] | (simp only [i64_w, i32_w]; rw [c45b0]) | skip)
                  as_aux_lemma =>
                    have H' := Aside0.mk H
                    clear H
                    obtain ⟨Ao46, co46, eo46⟩ := Kd.S_slice HO169.out
                    subst eo46
                    go_wp2
                    repeat (go_quiet (fail); try go_wp2)
                    go_meet
                    case rel => exact ⟨_, (((t167.length : Int) != x6_2)), (by first | rfl | (simp; done) | (simp [*]; done)), H', ⟨by have := HJ2.out; have := HK2.out; first | omega | exact Nat.le_refl _⟩, ⟨by (with_reducible repeat (first | apply Kd.R_alloc | apply Kd.R_drewN | apply Kd.R_drew)); exact HO_5.out⟩, ⟨by (with_reducible repeat (first | apply Kd.S_alloc | apply Kd.S_drewN | apply Kd.S_drew)); exact HO169.out⟩, ⟨by (with_reducible repeat (first | apply Kd.R_alloc | apply Kd.R_drewN | apply Kd.R_drew)); exact HO_141003.out⟩, ⟨by (with_reducible repeat (first | refine blk_drewN ?_ _ | refine blk_drew ?_ | refine blk_alloc ?_ _)); exact BK140.out⟩, ⟨by repeat (first | (with_reducible first | exact HB.out | apply below_alloc | apply pw_below_drewN | apply below_drew1 | refine below_set ?_ GE140.out) | exact HB.out)⟩⟩
                · rw [if_neg c45] at H
                  have c45b0 : (t170 == 0) = false := beq_eq_false_iff_ne.mpr c45
                  have c45b1 : (t170 != 0) = true := bne_iff_ne.mpr c45
                  (first | rw [c45b0] | (simp only [i64_w, i32_w]; rw [c45b0]) | skip)
                  as_aux_lemma =>
                    have H' := Aside0.mk H
                    clear H
                    go_wp2
                    repeat (go_quiet (fail); try go_wp2)
                    go_meet
                    case rel => exact ⟨_, (true), (by first | rfl | (simp; done) | (simp [*]; done)), H', ⟨by have := HJ2.out; have := HK2.out; first | omega | exact Nat.le_refl _⟩, ⟨by (with_reducible repeat (first | apply Kd.R_alloc | apply Kd.R_drewN | apply Kd.R_drew)); exact HO_5.out⟩, ⟨by (with_reducible repeat (first | apply Kd.S_alloc | apply Kd.S_drewN | apply Kd.S_drew)); exact HO169.out⟩, ⟨by (with_reducible repeat (first | apply Kd.R_alloc | apply Kd.R_drewN | apply Kd.R_drew)); exact HO_141003.out⟩, ⟨by (with_reducible repeat (first | refine blk_drewN ?_ _ | refine blk_drew ?_ | refine blk_alloc ?_ _)); exact BK140.out⟩, ⟨by repeat (first | (with_reducible first | exact HB.out | apply below_alloc | apply pw_below_drewN | apply below_drew1 | refine below_set ?_ GE140.out) | exact HB.out)⟩⟩
              case rest =>
                clear HC40
                try clear c1
                try clear p1
                try clear q1
                try clear hx1
                try clear c2
                try clear p2
                try clear c3
                try clear c4
                try clear c5
                try clear c6
                try clear p6
                try clear c9
                try clear c9b0
                try clear c10
                try clear c10b0
                try clear c12
                try clear c12b0
                try clear c13
                try clear c14
                try clear p14
                try clear q14
                try clear hx14
                try clear c15
                try clear c16
                try clear c26
                try clear c27
                try clear c28
                try clear c29
                try clear c45
                try clear c45b0
                try clear c45b1
                try clear hcz17_0
                try clear hcz17_1
                try clear hcz17_2
                try clear hcz17_3
                try clear hcz20_0
                try clear hcz20_1
                try clear hcz20_2
                try clear hcz20_3
                try clear hcz23_0
                try clear hcz23_1
                try clear hcz23_2
                try clear hcz23_3
                try clear hcz30_0
                try clear hcz30_1
                try clear hcz30_2
                try clear hcz30_3
                try clear hcz33_0
                try clear hcz33_1
                try clear hcz33_2
                try clear hcz33_3
                try clear hcz36_0
                try clear hcz36_1
                try clear hcz36_2
                try clear hcz36_3
                try clear hcz41_0
                try clear hcz41_1
                try clear hcz41_2
                try clear hcz41_3
                try clear hcz8_0
                try clear hcz8_1
                try clear hcz8_2
                try clear hcz8_3
                try clear hfz17_0
                try clear hfz17_1
                try clear hfz17_2
                try clear hfz17_3
                try clear hfz20_0
                try clear hfz20_1
                try clear hfz20_2
                try clear hfz20_3
                try clear hfz23_0
                try clear hfz23_1
                try clear hfz23_2
                try clear hfz23_3
                try clear hfz30_0
                try clear hfz30_1
                try clear hfz30_2
                try clear hfz30_3
                try clear hfz33_0
                try clear hfz33_1
                try clear hfz33_2
                try clear hfz33_3
                try clear hfz36_0
                try clear hfz36_1
                try clear hfz36_2
                try clear hfz36_3
                try clear hfz41_0
                try clear hfz41_1
                try clear hfz41_2
                try clear hfz41_3
                try clear hfz8_0
                try clear hfz8_1
                try clear hfz8_2
                try clear hfz8_3
                try clear hx141_0
                try clear p141
                try clear p2
                try clear p6
                try clear q141
                obtain ⟨kq, x87_39, rfl, HA, HJ39, HO_5, HO_9, HO_141003, BK140, HB⟩ := hcut
                cases kq with
                | zero => exact absurd HA.out (by simp [racewaylaw15_DecompLoops.j2])
                | succ kj39 =>
                  have H := HA.out
                  clear HA
                  simp only [racewaylaw15_DecompLoops.j2] at H
                  by_cases c47 : x87_39 = true
                  · subst c47
                    have H1 : (some false) = some r := by rw [if_pos rfl] at H; exact H
                    clear H
                    have H := H1
                    clear H1
                    exact absurd ((Option.some.inj H).trans hrT_.out) (by simp)
                  · replace c47 := Bool.eq_false_iff.mpr c47
                    subst c47
                    have H1 : (racewaylaw15_DecompLoops.l1 kj39 x5_2 t167 0 0) = some r := by rw [if_neg (show ¬ (false = true) by decide)] at H; exact H
                    clear H
                    have H := H1
                    clear H1
                    have H' := Aside0.mk H
                    clear H
                    go_wp2
                    repeat (go_quiet (fail); try go_wp2)
                    go_loopg [11, 12] kj39 (fun kq v11 v12 w' => ∃ (x11_4 : Int) (x12_4 : Int), v11 = .int .i64 x11_4 ∧ v12 = .int .i64 x12_4 ∧ Aside0 (racewaylaw15_DecompLoops.l1 kq x5_2 t167 x11_4 x12_4 = some r) ∧ Aside0 (kq ≤ kj39) ∧ Aside0 (Kd.R (Kd.int .i64) 2 w' w.heap.size (fun _ => True) (.slice Ao43 x5_2.length co43) x5_2) ∧ Aside0 (Kd.S k36 36 w' w.heap.size (fun _ => True) v168 t167) ∧ Aside0 (Kd.R k30 30 w' w.heap.size (fun _ => True) (.slice Ao42 x141003_2.length co42) x141003_2) ∧ Aside0 (w'.heap[gb140]? = some (.cells #[.int .i64 (wrap64 (2 + (wrap64 (2 * (l0.length : Int))))), .int .i64 1, .int .i64 2, (.slice Ao42 x141003_2.length co42)] 26 (0, 0))) ∧ Aside0 (Below w.heap.size w w'))
                    case atStart => exact ⟨(0), (0), (by first | rfl | (simp; done) | (simp [*]; done)), (by first | rfl | (simp; done) | (simp [*]; done)), H', ⟨Nat.le_refl _⟩, ⟨by (with_reducible repeat (first | apply Kd.R_alloc | apply Kd.R_drewN | apply Kd.R_drew)); exact HO_5.out⟩, ⟨by (with_reducible repeat (first | apply Kd.S_alloc | apply Kd.S_drewN | apply Kd.S_drew)); exact HO_9.out⟩, ⟨by (with_reducible repeat (first | apply Kd.R_alloc | apply Kd.R_drewN | apply Kd.R_drew)); exact HO_141003.out⟩, ⟨by (with_reducible repeat (first | refine blk_drewN ?_ _ | refine blk_drew ?_ | refine blk_alloc ?_ _)); exact BK140.out⟩, ⟨by repeat (first | (with_reducible first | exact HB.out | apply below_alloc | apply pw_below_drewN | apply below_drew1 | refine below_set ?_ GE140.out) | exact HB.out)⟩⟩
                    case round =>
                      clear H'
                      try clear c1
                      try clear p1
                      try clear q1
                      try clear hx1
                      try clear c2
                      try clear p2
                      try clear c3
                      try clear c4
                      try clear c5
                      try clear c6
                      try clear p6
                      try clear c9
                      try clear c9b0
                      try clear c10
                      try clear c10b0
                      try clear c12
                      try clear c12b0
                      try clear c13
                      try clear c14
                      try clear p14
                      try clear q14
                      try clear hx14
                      try clear c15
                      try clear c16
                      try clear c26
                      try clear c27
                      try clear c28
                      try clear c29
                      try clear c45
                      try clear c45b0
                      try clear c45b1
                      try clear c47
                      try clear hcz17_0
                      try clear hcz17_1
                      try clear hcz17_2
                      try clear hcz17_3
                      try clear hcz20_0
                      try clear hcz20_1
                      try clear hcz20_2
                      try clear hcz20_3
                      try clear hcz23_0
                      try clear hcz23_1
                      try clear hcz23_2
                      try clear hcz23_3
                      try clear hcz30_0
                      try clear hcz30_1
                      try clear hcz30_2
                      try clear hcz30_3
                      try clear hcz33_0
                      try clear hcz33_1
                      try clear hcz33_2
                      try clear hcz33_3
                      try clear hcz36_0
                      try clear hcz36_1
                      try clear hcz36_2
                      try clear hcz36_3
                      try clear hcz41_0
                      try clear hcz41_1
                      try clear hcz41_2
                      try clear hcz41_3
                      try clear hcz8_0
                      try clear hcz8_1
                      try clear hcz8_2
                      try clear hcz8_3
                      try clear hfz17_0
                      try clear hfz17_1
                      try clear hfz17_2
                      try clear hfz17_3
                      try clear hfz20_0
                      try clear hfz20_1
                      try clear hfz20_2
                      try clear hfz20_3
                      try clear hfz23_0
                      try clear hfz23_1
                      try clear hfz23_2
                      try clear hfz23_3
                      try clear hfz30_0
                      try clear hfz30_1
                      try clear hfz30_2
                      try clear hfz30_3
                      try clear hfz33_0
                      try clear hfz33_1
                      try clear hfz33_2
                      try clear hfz33_3
                      try clear hfz36_0
                      try clear hfz36_1
                      try clear hfz36_2
                      try clear hfz36_3
                      try clear hfz41_0
                      try clear hfz41_1
                      try clear hfz41_2
                      try clear hfz41_3
                      try clear hfz8_0
                      try clear hfz8_1
                      try clear hfz8_2
                      try clear hfz8_3
                      try clear hx141_0
                      try clear p1
                      try clear p14
                      try clear p141
                      try clear p2
                      try clear p6
                      try clear q1
                      try clear q14
                      try clear q141
                      obtain ⟨x11_4, x12_4, rfl, rfl, HA, HK4, HO_5, HO_9, HO_141003, BK140, HB⟩ := hrel
                      cases gk with
                      | zero => exact absurd HA.out (by simp [racewaylaw15_DecompLoops.l1])
                      | succ k4 =>
                        have H := HA.out
                        clear HA
                        simp only [racewaylaw15_DecompLoops.l1] at H
                        by_cases c48 : x12_4 < (t167.length : Int)
                        · rw [if_pos c48] at H
                          have c48b0 : decide (x12_4 < (t167.length : Int)) = true := decide_eq_true c48
                          clear c48
                          have H' := Aside0.mk H
                          clear H
                          obtain ⟨Ao49, co49, eo49⟩ := Kd.S_slice HO_9.out
                          subst eo49
                          go_wp2
                          repeat (go_quiet (fail); try go_wp2)
                          go_loopg [11] k4 (fun kq v11 w' => ∃ (x11_5 : Int), v11 = .int .i64 x11_5 ∧ Aside0 (racewaylaw15_DecompLoops.l2 kq x5_2 t167 x11_5 x12_4 = some r) ∧ Aside0 (kq ≤ k4) ∧ Aside0 (Kd.R (Kd.int .i64) 2 w' w.heap.size (fun _ => True) (.slice Ao43 x5_2.length co43) x5_2) ∧ Aside0 (Kd.S k36 36 w' w.heap.size (fun _ => True) (.slice Ao49 t167.length co49) t167) ∧ Aside0 (Kd.R k30 30 w' w.heap.size (fun _ => True) (.slice Ao42 x141003_2.length co42) x141003_2) ∧ Aside0 (w'.heap[gb140]? = some (.cells #[.int .i64 (wrap64 (2 + (wrap64 (2 * (l0.length : Int))))), .int .i64 1, .int .i64 2, (.slice Ao42 x141003_2.length co42)] 26 (0, 0))) ∧ Aside0 (Below w.heap.size w w'))
                          case atStart => exact ⟨(x11_4), (by first | rfl | (simp; done) | (simp [*]; done)), H', ⟨Nat.le_refl _⟩, ⟨by (with_reducible repeat (first | apply Kd.R_alloc | apply Kd.R_drewN | apply Kd.R_drew)); exact HO_5.out⟩, ⟨by (with_reducible repeat (first | apply Kd.S_alloc | apply Kd.S_drewN | apply Kd.S_drew)); exact HO_9.out⟩, ⟨by (with_reducible repeat (first | apply Kd.R_alloc | apply Kd.R_drewN | apply Kd.R_drew)); exact HO_141003.out⟩, ⟨by (with_reducible repeat (first | refine blk_drewN ?_ _ | refine blk_drew ?_ | refine blk_alloc ?_ _)); exact BK140.out⟩, ⟨by repeat (first | (with_reducible first | exact HB.out | apply below_alloc | apply pw_below_drewN | apply below_drew1 | refine below_set ?_ GE140.out) | exact HB.out)⟩⟩
                          case round =>
                            clear H'
                            try clear c1
                            try clear p1
                            try clear q1
                            try clear hx1
                            try clear c2
                            try clear p2
                            try clear c3
                            try clear c4
                            try clear c5
                            try clear c6
                            try clear p6
                            try clear c9
                            try clear c9b0
                            try clear c10
                            try clear c10b0
                            try clear c12
                            try clear c12b0
                            try clear c13
                            try clear c14
                            try clear p14
                            try clear q14
                            try clear hx14
                            try clear c15
                            try clear c16
                            try clear c26
                            try clear c27
                            try clear c28
                            try clear c29
                            try clear c45
                            try clear c45b0
                            try clear c45b1
                            try clear c47
                            try clear c48
                            try clear c48b0
                            try clear hcz17_0
                            try clear hcz17_1
                            try clear hcz17_2
                            try clear hcz17_3
                            try clear hcz20_0
                            try clear hcz20_1
                            try clear hcz20_2
                            try clear hcz20_3
                            try clear hcz23_0
                            try clear hcz23_1
                            try clear hcz23_2
                            try clear hcz23_3
                            try clear hcz30_0
                            try clear hcz30_1
                            try clear hcz30_2
                            try clear hcz30_3
                            try clear hcz33_0
                            try clear hcz33_1
                            try clear hcz33_2
                            try clear hcz33_3
                            try clear hcz36_0
                            try clear hcz36_1
                            try clear hcz36_2
                            try clear hcz36_3
                            try clear hcz41_0
                            try clear hcz41_1
                            try clear hcz41_2
                            try clear hcz41_3
                            try clear hcz8_0
                            try clear hcz8_1
                            try clear hcz8_2
                            try clear hcz8_3
                            try clear hfz17_0
                            try clear hfz17_1
                            try clear hfz17_2
                            try clear hfz17_3
                            try clear hfz20_0
                            try clear hfz20_1
                            try clear hfz20_2
                            try clear hfz20_3
                            try clear hfz23_0
                            try clear hfz23_1
                            try clear hfz23_2
                            try clear hfz23_3
                            try clear hfz30_0
                            try clear hfz30_1
                            try clear hfz30_2
                            try clear hfz30_3
                            try clear hfz33_0
                            try clear hfz33_1
                            try clear hfz33_2
                            try clear hfz33_3
                            try clear hfz36_0
                            try clear hfz36_1
                            try clear hfz36_2
                            try clear hfz36_3
                            try clear hfz41_0
                            try clear hfz41_1
                            try clear hfz41_2
                            try clear hfz41_3
                            try clear hfz8_0
                            try clear hfz8_1
                            try clear hfz8_2
                            try clear hfz8_3
                            try clear hx141_0
                            try clear p1
                            try clear p14
                            try clear p141
                            try clear p2
                            try clear p6
                            try clear q1
                            try clear q14
                            try clear q141
                            obtain ⟨x11_5, rfl, HA, HK5, HO_5, HO_9, HO_141003, BK140, HB⟩ := hrel
                            cases gk with
                            | zero => exact absurd HA.out (by simp [racewaylaw15_DecompLoops.l2])
                            | succ k5 =>
                              have H := HA.out
                              clear HA
                              simp only [racewaylaw15_DecompLoops.l2] at H
                              by_cases c50 : 0 ≤ x11_5
                              · rw [if_pos c50] at H
                                have c50b0 : decide (0 ≤ x11_5) = true := decide_eq_true c50
                                clear c50
                                by_cases c51 : x11_5 < (x5_2.length : Int)
                                · rw [if_pos c51] at H
                                  have c51b0 : decide (x11_5 < (x5_2.length : Int)) = true := decide_eq_true c51
                                  clear c51
                                  by_cases c52 : (rd x5_2 x11_5) = 0
                                  · rw [if_pos c52] at H
                                    have c52b0 : ((rd x5_2 x11_5) == 0) = true := beq_iff_eq.mpr c52
                                    have c52b1 : ((rd x5_2 x11_5) != 0) = false := bne_eq_false_iff_eq.mpr c52
                                    clear c52
                                    as_aux_lemma =>
                                      have H' := Aside0.mk H
                                      clear H
                                      have p171 : 0 ≤ (x11_5 : Int) := of_decide_eq_true (by first | (with_reducible assumption) | assumption)
                                      have q171 : x11_5 < (x5_2.length : Int) := of_decide_eq_true (by first | (with_reducible assumption) | assumption)
                                      obtain ⟨ad171, e171, hx171_0⟩ := Kd.at_int (Kd.R_reads' HO_5.out).2.2 x11_5 p171 q171
                                      cases e171
                                      replace p171 := eq_true p171
                                      replace q171 := eq_true q171
                                      go_wp2
                                      repeat (go_quiet (fail); try go_wp2)
                                      go_roundg k5
                                      case measure => have := HJ2.out; have := HK2.out; have := HJ39.out; have := HK4.out; have := HK5.out; omega
                                      case rel => exact ⟨(wrap64 (x11_5 + 2)), (by first | rfl | (simp; done) | (simp [*]; done)), H', ⟨by have := HJ2.out; have := HK2.out; have := HJ39.out; have := HK4.out; have := HK5.out; omega⟩, ⟨by (with_reducible repeat (first | apply Kd.R_alloc | apply Kd.R_drewN | apply Kd.R_drew)); exact HO_5.out⟩, ⟨by (with_reducible repeat (first | apply Kd.S_alloc | apply Kd.S_drewN | apply Kd.S_drew)); exact HO_9.out⟩, ⟨by (with_reducible repeat (first | apply Kd.R_alloc | apply Kd.R_drewN | apply Kd.R_drew)); exact HO_141003.out⟩, ⟨by (with_reducible repeat (first | refine blk_drewN ?_ _ | refine blk_drew ?_ | refine blk_alloc ?_ _)); exact BK140.out⟩, ⟨by repeat (first | (with_reducible first | exact HB.out | apply below_alloc | apply pw_below_drewN | apply below_drew1 | refine below_set ?_ GE140.out) | exact HB.out)⟩⟩
                                  · rw [if_neg c52] at H
                                    have c52b0 : ((rd x5_2 x11_5) == 0) = false := beq_eq_false_iff_ne.mpr c52
                                    have c52b1 : ((rd x5_2 x11_5) != 0) = true := bne_iff_ne.mpr c52
                                    by_cases c53 : 0 ≤ x12_4
                                    · rw [if_pos c53] at H
                                      have c53b0 : decide (0 ≤ x12_4) = true := decide_eq_true c53
                                      clear c53
                                      by_cases c54 : x12_4 < (t167.length : Int)
                                      · rw [if_pos c54] at H
                                        have c54b0 : decide (x12_4 < (t167.length : Int)) = true := decide_eq_true c54
                                        clear c54
                                        by_cases c55 : ((rd_T36 t167 x12_4).f0) = 99
                                        · rw [if_pos c55] at H
                                          have c55b0 : (((rd_T36 t167 x12_4).f0) == 99) = true := beq_iff_eq.mpr c55
                                          have c55b1 : (((rd_T36 t167 x12_4).f0) != 99) = false := bne_eq_false_iff_eq.mpr c55
                                          clear c55
                                          by_cases c56 : ((rd_T36 t167 x12_4).f2) = (rd x5_2 x11_5)
                                          · rw [if_pos c56] at H
                                            have c56b0 : (((rd_T36 t167 x12_4).f2) == (rd x5_2 x11_5)) = true := beq_iff_eq.mpr c56
                                            have c56b1 : (((rd_T36 t167 x12_4).f2) != (rd x5_2 x11_5)) = false := bne_eq_false_iff_eq.mpr c56
                                            clear c56
                                            by_cases c57 : (((rd_T36 t167 x12_4).f1).length : Int) = 2
                                            · rw [if_pos c57] at H
                                              have c57b0 : ((((rd_T36 t167 x12_4).f1).length : Int) == 2) = true := beq_iff_eq.mpr c57
                                              have c57b1 : ((((rd_T36 t167 x12_4).f1).length : Int) != 2) = false := bne_eq_false_iff_eq.mpr c57
                                              clear c57
                                              by_cases c58 : 0 < (((rd_T36 t167 x12_4).f1).length : Int)
                                              · rw [if_pos c58] at H
                                                have c58b0 : decide (0 < (((rd_T36 t167 x12_4).f1).length : Int)) = true := decide_eq_true c58
                                                have c58b1 : decide (0 < ((rd_T36 t167 x12_4).f1).length) = true := decide_eq_true (by omega)
                                                clear c58
                                                by_cases c59 : (rd ((rd_T36 t167 x12_4).f1) 0) = x11_5
                                                · rw [if_pos c59] at H
                                                  have c59b0 : ((rd ((rd_T36 t167 x12_4).f1) 0) == x11_5) = true := beq_iff_eq.mpr c59
                                                  have c59b1 : ((rd ((rd_T36 t167 x12_4).f1) 0) != x11_5) = false := bne_eq_false_iff_eq.mpr c59
                                                  clear c59
                                                  by_cases c60 : 1 < (((rd_T36 t167 x12_4).f1).length : Int)
                                                  · rw [if_pos c60] at H
                                                    have c60b0 : decide (1 < (((rd_T36 t167 x12_4).f1).length : Int)) = true := decide_eq_true c60
                                                    have c60b1 : decide (1 < ((rd_T36 t167 x12_4).f1).length) = true := decide_eq_true (by omega)
                                                    clear c60
                                                    by_cases c61 : (rd ((rd_T36 t167 x12_4).f1) 1) = (wrap64 (x11_5 + 1))
                                                    · rw [if_pos c61] at H
                                                      have c61b0 : ((rd ((rd_T36 t167 x12_4).f1) 1) == (wrap64 (x11_5 + 1))) = true := beq_iff_eq.mpr c61
                                                      have c61b1 : ((rd ((rd_T36 t167 x12_4).f1) 1) != (wrap64 (x11_5 + 1))) = false := bne_eq_false_iff_eq.mpr c61
                                                      clear c61
                                                      as_aux_lemma =>
                                                        have H' := Aside0.mk H
                                                        clear H
                                                        have p171 : 0 ≤ (x11_5 : Int) := of_decide_eq_true (by first | (with_reducible assumption) | assumption)
                                                        have q171 : x11_5 < (x5_2.length : Int) := of_decide_eq_true (by first | (with_reducible assumption) | assumption)
                                                        obtain ⟨ad171, e171, hx171_0⟩ := Kd.at_int (Kd.R_reads' HO_5.out).2.2 x11_5 p171 q171
                                                        cases e171
                                                        replace p171 := eq_true p171
                                                        replace q171 := eq_true q171
                                                        have p172 : 0 ≤ (x12_4 : Int) := of_decide_eq_true (by first | (with_reducible assumption) | assumption)
                                                        have q172 : x12_4 < (t167.length : Int) := of_decide_eq_true (by first | (with_reducible assumption) | assumption)
                                                        obtain ⟨ad172, A172_1, c172_1, e172, hx172_0, hx172_1, hx172_2, hl172_1, hi172_1⟩ := at_T36 (Kd.S_reads' HO_9.out).2.2 x12_4 p172 q172
                                                        cases e172
                                                        obtain ⟨ce172, hce172, hMe172, hcc172⟩ := Kd.S_get HO_9.out z36 x12_4 p172 (by first | exact q172 | exact of_decide_eq_true (by first | (with_reducible assumption) | assumption) | (have e_ := (Kd.S_reads' HO_9.out).1; omega))
                                                        obtain ⟨ve172_1, rfl, ge172_1⟩ := k36_openM hMe172
                                                        have hv172_1 := hcc172 1 _ rfl
                                                        rw [add_field _ _ 1 (by omega)] at hv172_1
                                                        replace hv172_1 := Option.some.inj (hv172_1.symm.trans hx172_1)
                                                        rw [hv172_1] at ge172_1
                                                        have HL172_1 := Aside0.mk (show Kd.R (Kd.int .i64) 3 _ _ _ _ ((rd_T36 t167 x12_4).f1) from ge172_1)
                                                        clear hv172_1 ge172_1
                                                        clear hcc172 hce172
                                                        have HR172_1 := Aside0.mk hi172_1
                                                        have HC172_1 := Aside0.mk hl172_1
                                                        clear hi172_1 hl172_1
                                                        replace p172 := eq_true p172
                                                        replace q172 := eq_true q172
                                                        have p173 : 0 ≤ (x12_4 : Int) := of_decide_eq_true (by first | (with_reducible assumption) | assumption)
                                                        have q173 : x12_4 < (t167.length : Int) := of_decide_eq_true (by first | (with_reducible assumption) | assumption)
                                                        obtain ⟨ad173, A173_1, c173_1, e173, hx173_0, hx173_1, hx173_2, hl173_1, hi173_1⟩ := at_T36 (Kd.S_reads' HO_9.out).2.2 x12_4 p173 q173
                                                        obtain rfl : ad172 = ad173 := (by injection e173)
                                                        obtain ⟨ce173, hce173, hMe173, hcc173⟩ := Kd.S_get HO_9.out z36 x12_4 p173 (by first | exact q173 | exact of_decide_eq_true (by first | (with_reducible assumption) | assumption) | (have e_ := (Kd.S_reads' HO_9.out).1; omega))
                                                        obtain ⟨ve173_1, rfl, ge173_1⟩ := k36_openM hMe173
                                                        have hv173_1 := hcc173 1 _ rfl
                                                        rw [add_field _ _ 1 (by omega)] at hv173_1
                                                        replace hv173_1 := Option.some.inj (hv173_1.symm.trans hx173_1)
                                                        rw [hv173_1] at ge173_1
                                                        have HL173_1 := Aside0.mk (show Kd.R (Kd.int .i64) 3 _ _ _ _ ((rd_T36 t167 x12_4).f1) from ge173_1)
                                                        clear hv173_1 ge173_1
                                                        clear hcc173 hce173
                                                        have HR173_1 := Aside0.mk hi173_1
                                                        have HC173_1 := Aside0.mk hl173_1
                                                        clear hi173_1 hl173_1
                                                        replace p173 := eq_true p173
                                                        replace q173 := eq_true q173
                                                        have ea_ := Option.some.inj (hx172_1.symm.trans hx173_1)
                                                        injection ea_ with ea_ en_ ec_
                                                        subst ea_
                                                        subst ec_
                                                        clear en_
                                                        have p174 : 0 ≤ (x11_5 : Int) := of_decide_eq_true (by first | (with_reducible assumption) | assumption)
                                                        have q174 : x11_5 < (x5_2.length : Int) := of_decide_eq_true (by first | (with_reducible assumption) | assumption)
                                                        obtain ⟨ad174, e174, hx174_0⟩ := Kd.at_int (Kd.R_reads' HO_5.out).2.2 x11_5 p174 q174
                                                        obtain rfl : ad171 = ad174 := (by injection e174)
                                                        replace p174 := eq_true p174
                                                        replace q174 := eq_true q174
                                                        have p175 : 0 ≤ (x12_4 : Int) := of_decide_eq_true (by first | (with_reducible assumption) | assumption)
                                                        have q175 : x12_4 < (t167.length : Int) := of_decide_eq_true (by first | (with_reducible assumption) | assumption)
                                                        obtain ⟨ad175, A175_1, c175_1, e175, hx175_0, hx175_1, hx175_2, hl175_1, hi175_1⟩ := at_T36 (Kd.S_reads' HO_9.out).2.2 x12_4 p175 q175
                                                        obtain rfl : ad172 = ad175 := (by injection e175)
                                                        obtain ⟨ce175, hce175, hMe175, hcc175⟩ := Kd.S_get HO_9.out z36 x12_4 p175 (by first | exact q175 | exact of_decide_eq_true (by first | (with_reducible assumption) | assumption) | (have e_ := (Kd.S_reads' HO_9.out).1; omega))
                                                        obtain ⟨ve175_1, rfl, ge175_1⟩ := k36_openM hMe175
                                                        have hv175_1 := hcc175 1 _ rfl
                                                        rw [add_field _ _ 1 (by omega)] at hv175_1
                                                        replace hv175_1 := Option.some.inj (hv175_1.symm.trans hx175_1)
                                                        rw [hv175_1] at ge175_1
                                                        have HL175_1 := Aside0.mk (show Kd.R (Kd.int .i64) 3 _ _ _ _ ((rd_T36 t167 x12_4).f1) from ge175_1)
                                                        clear hv175_1 ge175_1
                                                        clear hcc175 hce175
                                                        have HR175_1 := Aside0.mk hi175_1
                                                        have HC175_1 := Aside0.mk hl175_1
                                                        clear hi175_1 hl175_1
                                                        replace p175 := eq_true p175
                                                        replace q175 := eq_true q175
                                                        have ea_ := Option.some.inj (hx172_1.symm.trans hx175_1)
                                                        injection ea_ with ea_ en_ ec_
                                                        subst ea_
                                                        subst ec_
                                                        clear en_
                                                        have p176 : 0 ≤ (x12_4 : Int) := of_decide_eq_true (by first | (with_reducible assumption) | assumption)
                                                        have q176 : x12_4 < (t167.length : Int) := of_decide_eq_true (by first | (with_reducible assumption) | assumption)
                                                        obtain ⟨ad176, A176_1, c176_1, e176, hx176_0, hx176_1, hx176_2, hl176_1, hi176_1⟩ := at_T36 (Kd.S_reads' HO_9.out).2.2 x12_4 p176 q176
                                                        obtain rfl : ad172 = ad176 := (by injection e176)
                                                        obtain ⟨ce176, hce176, hMe176, hcc176⟩ := Kd.S_get HO_9.out z36 x12_4 p176 (by first | exact q176 | exact of_decide_eq_true (by first | (with_reducible assumption) | assumption) | (have e_ := (Kd.S_reads' HO_9.out).1; omega))
                                                        obtain ⟨ve176_1, rfl, ge176_1⟩ := k36_openM hMe176
                                                        have hv176_1 := hcc176 1 _ rfl
                                                        rw [add_field _ _ 1 (by omega)] at hv176_1
                                                        replace hv176_1 := Option.some.inj (hv176_1.symm.trans hx176_1)
                                                        rw [hv176_1] at ge176_1
                                                        have HL176_1 := Aside0.mk (show Kd.R (Kd.int .i64) 3 _ _ _ _ ((rd_T36 t167 x12_4).f1) from ge176_1)
                                                        clear hv176_1 ge176_1
                                                        clear hcc176 hce176
                                                        have HR176_1 := Aside0.mk hi176_1
                                                        have HC176_1 := Aside0.mk hl176_1
                                                        clear hi176_1 hl176_1
                                                        replace p176 := eq_true p176
                                                        replace q176 := eq_true q176
                                                        have ea_ := Option.some.inj (hx172_1.symm.trans hx176_1)
                                                        injection ea_ with ea_ en_ ec_
                                                        subst ea_
                                                        subst ec_
                                                        clear en_
                                                        have p177 : 0 ≤ (0 : Int) := (by omega)
                                                        have q177 : 0 < (((rd_T36 t167 x12_4).f1).length : Int) := of_decide_eq_true (by first | (with_reducible assumption) | assumption)
                                                        obtain ⟨ad177, e177, hx177_0⟩ := Kd.at_int (by repeat (first | (with_reducible exact HR176_1.out) | (with_reducible refine Kd.C_alloc ?_ _) | (with_reducible refine Kd.C_drewN ?_ _) | (with_reducible refine Kd.C_drew ?_) | exact HR176_1.out)) 0 p177 q177
                                                        cases e177
                                                        have qi177 : (0 < ((rd_T36 t167 x12_4).f1).length) = True := eq_true (by omega)
                                                        (try rw [show ((0 : Int)).toNat = 0 from rfl] at hx177_0)
                                                        (try rw [Addr.add_zero'] at hx177_0)
                                                        replace p177 := eq_true p177
                                                        replace q177 := eq_true q177
                                                        have p178 : 0 ≤ (x12_4 : Int) := of_decide_eq_true (by first | (with_reducible assumption) | assumption)
                                                        have q178 : x12_4 < (t167.length : Int) := of_decide_eq_true (by first | (with_reducible assumption) | assumption)
                                                        obtain ⟨ad178, A178_1, c178_1, e178, hx178_0, hx178_1, hx178_2, hl178_1, hi178_1⟩ := at_T36 (Kd.S_reads' HO_9.out).2.2 x12_4 p178 q178
                                                        obtain rfl : ad172 = ad178 := (by injection e178)
                                                        obtain ⟨ce178, hce178, hMe178, hcc178⟩ := Kd.S_get HO_9.out z36 x12_4 p178 (by first | exact q178 | exact of_decide_eq_true (by first | (with_reducible assumption) | assumption) | (have e_ := (Kd.S_reads' HO_9.out).1; omega))
                                                        obtain ⟨ve178_1, rfl, ge178_1⟩ := k36_openM hMe178
                                                        have hv178_1 := hcc178 1 _ rfl
                                                        rw [add_field _ _ 1 (by omega)] at hv178_1
                                                        replace hv178_1 := Option.some.inj (hv178_1.symm.trans hx178_1)
                                                        rw [hv178_1] at ge178_1
                                                        have HL178_1 := Aside0.mk (show Kd.R (Kd.int .i64) 3 _ _ _ _ ((rd_T36 t167 x12_4).f1) from ge178_1)
                                                        clear hv178_1 ge178_1
                                                        clear hcc178 hce178
                                                        have HR178_1 := Aside0.mk hi178_1
                                                        have HC178_1 := Aside0.mk hl178_1
                                                        clear hi178_1 hl178_1
                                                        replace p178 := eq_true p178
                                                        replace q178 := eq_true q178
                                                        have ea_ := Option.some.inj (hx172_1.symm.trans hx178_1)
                                                        injection ea_ with ea_ en_ ec_
                                                        subst ea_
                                                        subst ec_
                                                        clear en_
                                                        have p179 : 0 ≤ (1 : Int) := (by omega)
                                                        have q179 : 1 < (((rd_T36 t167 x12_4).f1).length : Int) := of_decide_eq_true (by first | (with_reducible assumption) | assumption)
                                                        obtain ⟨ad179, e179, hx179_0⟩ := Kd.at_int (by repeat (first | (with_reducible exact HR178_1.out) | (with_reducible refine Kd.C_alloc ?_ _) | (with_reducible refine Kd.C_drewN ?_ _) | (with_reducible refine Kd.C_drew ?_) | exact HR178_1.out)) 1 p179 q179
                                                        cases e179
                                                        (try simp only [show (1 : Int).toNat = 1 from rfl, Nat.reduceMul, Nat.reduceEqDiff, Go.Addr.add, ↓reduceIte] at hx179_0)
                                                        have qi179 : (1 < ((rd_T36 t167 x12_4).f1).length) = True := eq_true (by omega)
                                                        (try rw [show ((1 : Int)).toNat = 1 from rfl] at hx179_0)
                                                        replace p179 := eq_true p179
                                                        replace q179 := eq_true q179
                                                        go_wp2
                                                        repeat (go_quiet (fail); try go_wp2)
                                                        go_roundg k5
                                                        case measure => have := HJ2.out; have := HK2.out; have := HJ39.out; have := HK4.out; have := HK5.out; omega
                                                        case rel => exact ⟨(wrap64 (x11_5 + 2)), (wrap64 (x12_4 + 1)), (by first | rfl | (simp; done) | (simp [*]; done)), (by first | rfl | (simp; done) | (simp [*]; done)), H', ⟨by have := HJ2.out; have := HK2.out; have := HJ39.out; have := HK4.out; have := HK5.out; omega⟩, ⟨by (with_reducible repeat (first | apply Kd.R_alloc | apply Kd.R_drewN | apply Kd.R_drew)); exact HO_5.out⟩, ⟨by (with_reducible repeat (first | apply Kd.S_alloc | apply Kd.S_drewN | apply Kd.S_drew)); exact HO_9.out⟩, ⟨by (with_reducible repeat (first | apply Kd.R_alloc | apply Kd.R_drewN | apply Kd.R_drew)); exact HO_141003.out⟩, ⟨by (with_reducible repeat (first | refine blk_drewN ?_ _ | refine blk_drew ?_ | refine blk_alloc ?_ _)); exact BK140.out⟩, ⟨by repeat (first | (with_reducible first | exact HB.out | apply below_alloc | apply pw_below_drewN | apply below_drew1 | refine below_set ?_ GE140.out) | exact HB.out)⟩⟩
                                                    · rw [if_neg c61] at H
                                                      have c61b0 : ((rd ((rd_T36 t167 x12_4).f1) 1) == (wrap64 (x11_5 + 1))) = false := beq_eq_false_iff_ne.mpr c61
                                                      have c61b1 : ((rd ((rd_T36 t167 x12_4).f1) 1) != (wrap64 (x11_5 + 1))) = true := bne_iff_ne.mpr c61
                                                      exact absurd ((Option.some.inj H).trans hrT_.out) (by simp)
                                                  · rw [if_neg c60] at H
                                                    exact absurd H (by simp)
                                                · rw [if_neg c59] at H
                                                  have c59b0 : ((rd ((rd_T36 t167 x12_4).f1) 0) == x11_5) = false := beq_eq_false_iff_ne.mpr c59
                                                  have c59b1 : ((rd ((rd_T36 t167 x12_4).f1) 0) != x11_5) = true := bne_iff_ne.mpr c59
                                                  exact absurd ((Option.some.inj H).trans hrT_.out) (by simp)
                                              · rw [if_neg c58] at H
                                                exact absurd H (by simp)
                                            · rw [if_neg c57] at H
                                              have c57b0 : ((((rd_T36 t167 x12_4).f1).length : Int) == 2) = false := beq_eq_false_iff_ne.mpr c57
                                              have c57b1 : ((((rd_T36 t167 x12_4).f1).length : Int) != 2) = true := bne_iff_ne.mpr c57
                                              exact absurd ((Option.some.inj H).trans hrT_.out) (by simp)
                                          · rw [if_neg c56] at H
                                            have c56b0 : (((rd_T36 t167 x12_4).f2) == (rd x5_2 x11_5)) = false := beq_eq_false_iff_ne.mpr c56
                                            have c56b1 : (((rd_T36 t167 x12_4).f2) != (rd x5_2 x11_5)) = true := bne_iff_ne.mpr c56
                                            exact absurd ((Option.some.inj H).trans hrT_.out) (by simp)
                                        · rw [if_neg c55] at H
                                          have c55b0 : (((rd_T36 t167 x12_4).f0) == 99) = false := beq_eq_false_iff_ne.mpr c55
                                          have c55b1 : (((rd_T36 t167 x12_4).f0) != 99) = true := bne_iff_ne.mpr c55
                                          exact absurd ((Option.some.inj H).trans hrT_.out) (by simp)
                                      · rw [if_neg c54] at H
                                        exact absurd H (by simp)
                                    · rw [if_neg c53] at H
                                      exact absurd H (by simp)
                                · rw [if_neg c51] at H
                                  exact absurd H (by simp)
                              · rw [if_neg c50] at H
                                exact absurd H (by simp)
                        · rw [if_neg c48] at H
                          have c48b0 : decide (x12_4 < (t167.length : Int)) = false := decide_eq_false c48
                          clear c48
                          as_aux_lemma =>
                            obtain rfl := Option.some.inj H
                            obtain ⟨Ao62, co62, eo62⟩ := Kd.S_slice HO_9.out
                            subst eo62
                            go_wp2
                            repeat (go_quiet (fail); try go_wp2)
                            go_ret
                            exact ⟨by first | rfl | (simp [errW_none, errW_some] <;> rfl) | (simp [*, errW_none, errW_some] <;> rfl), by repeat (first | (with_reducible first | exact HB.out | apply below_alloc | apply pw_below_drewN | apply below_drew1 | refine below_set ?_ GE140.out) | exact HB.out)⟩

/-- THE ONE PURE STATEMENT of racewaylaw15_DecompLoops: yours. -/
def racewaylaw15_DecompLoops.Pure : Prop := ∀ (l0 : List Int), l0.length ≤ maxLen → l0.length * 8 ≤ 140737488351232 → (∀ x ∈ l0, (Lit.int .i64 x).wf = true) → ∃ k, racewaylaw15_DecompLoops.f k l0 = some true
theorem racewaylaw15_DecompLoops.walk (P : racewaylaw15_DecompLoops.Pure) (a0 : Option Addr) (len0 cap0 : Nat) (z0 : List Int) (w : World) (w0 : (a0 = none ∧ len0 = 0 ∧ cap0 = 0 ∧ z0 = []) ∨ ∃ x, a0 = some x ∧ len0 ≤ cap0 ∧ cap0 ≤ maxLen ∧ z0.length = cap0 ∧ (∀ i, i < z0.length → w.cell? (x.add i) = some (.int .i64 (z0.getD i 0))) ∧ ∀ n ∈ z0, (Lit.int .i64 n).wf = true) (y0 : len0 * 8 ≤ 140737488351232) :
    Calls Try.prog 3 #[.slice a0 len0 cap0] w fun e w' => e = .returned (.bool true) ∧ Below w.heap.size w w' := by
  obtain ⟨l0, rfl, hr0, hm0, hw0, hc0⟩ := ReadsInt.ofRowC w0
  obtain ⟨k, h⟩ := P l0 hm0 y0 hw0
  refine (racewaylaw15_DecompLoops.calls k _ _ l0 true w (Kd.C_of_reads (d := (0 : Int)) (h1 := fun _ => rfl) hr0) hc0 h ⟨rfl⟩).mono ?_
  rintro e w' ⟨rfl, hd⟩
  exact ⟨rfl, hd⟩

end Go.Proofs.Ytnjdjnoncoeffaa.PDecompLoops
