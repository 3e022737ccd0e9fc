/- For the claim that the law NetSums of the given program holds for every input: a text written by a program (wip/myprint over the kit's print), with contracts by hand where it says MANUAL. -/
import Derived.Test.YtjbeofcgnnlllaaPNetSumsx0
import Derived.Test.YtjbeofcgnnlllaaPNetSumsx3
import Derived.Test.YtjbeofcgnnlllaaPNetSumsx7
import Derived.Test.YtjbeofcgnnlllaaPNetSumsx8
namespace Go.Proofs.Ytjbeofcgnnlllaa.PNetSums
open Go.RowKit Go.Proofs.YtjbeofcgnnlllaaW.PrintWords Go.Proofs.YtjbeofcgnnlllaaW.PrintLast Go.Proofs.YtjbeofcgnnlllaaW.PrintMore
attribute [local go_sem] max2_int min2_int max_two min_two max_three min_three max_four min_four   -- for this text's walks alone
set_option linter.unusedVariables false
set_option linter.unusedSimpArgs false

/-! ### racewaylaw3_NetSums: function 3 -/
def racewaylaw3_NetSums.l0 : Nat → Int → Int → Int → Int → Int → Int → Int → List (S28) → Option (Bool)
  | 0, _, _, _, _, _, _, _, _ => none
  | k + 1, x1, x6, x8, x9, x111000, x111001, x111002, x111003 => if x9 < x6 then (if x9 = (wrap64 (x6 - 1)) then (if x111003.length < 5864062014805 then (racewaylaw3_NetSums.l0 k x1 x6 0 (wrap64 (x9 + 1)) x111000 x111001 x111002 (x111003 ++ [(⟨wrap64 (1 + (Int.tmod x9 2)), wrap64 (1 + (Int.tmod (wrap64 (Int.tdiv x9 2)) 2)), x8⟩ : S28)])) else (none)) else (if x111003.length < 5864062014805 then (racewaylaw3_NetSums.l0 k x1 x6 (wrap64 (x8 - (wrap64 (Int.tdiv x8 2)))) (wrap64 (x9 + 1)) x111000 x111001 x111002 (x111003 ++ [(⟨wrap64 (1 + (Int.tmod x9 2)), wrap64 (1 + (Int.tmod (wrap64 (Int.tdiv x9 2)) 2)), wrap64 (Int.tdiv x8 2)⟩ : S28)])) else (none))) else ((net_Check.f x111000 x111001 x111002 x111003).bind fun t117 => (if t117 = 0 then ((racewaylaw3_pick.f x1 3).bind fun t118 => (if x111003.length < 5864062014805 then ((some (x111003 ++ [(⟨1, 1, t118⟩ : S28)] : List (S28))).bind fun y119 => ((net_Check.f x111000 x111001 x111002 y119).bind fun t122 => ((racewaylaw3_pick.f x1 3).bind fun t118 => (if t122 = 0 then (if t118 = 0 then ((net_Check.f x111000 x111001 x111002 y119).bind fun t122 => (some true)) else (some false)) else (if t118 = 0 then (some false) else ((net_Check.f x111000 x111001 x111002 y119).bind fun t122 => ((net_Check.f x111000 x111001 x111002 y119).bind fun t122 => (some (t122 == 7))))))))) else (none))) else (some false)))
def racewaylaw3_NetSums.f (k : Nat) (a0 : Int) (a1 : Int) : Option (Bool) := (racewaylaw3_shown.f).bind fun t108 => (if t108 = true then ((racewaylaw3_pick.f a0 50).bind fun t109 => (racewaylaw3_NetSums.l0 k a1 (wrap64 (1 + t109)) 4611686018427387903 0 2 2 1 ([] : List (S28)))) else (some false))
theorem racewaylaw3_NetSums.mono_l : ∀ k, (∀ y0 y1 y2 y3 y4 y5 y6 y7, LeO (racewaylaw3_NetSums.l0 k y0 y1 y2 y3 y4 y5 y6 y7) (racewaylaw3_NetSums.l0 (k + 1) y0 y1 y2 y3 y4 y5 y6 y7))
  | 0 => fun _ _ _ _ _ _ _ _ r h => by simp [racewaylaw3_NetSums.l0] at h
  | k + 1 => by
    have ih0 := racewaylaw3_NetSums.mono_l k
    · intro y0 y1 y2 y3 y4 y5 y6 y7
      unfold racewaylaw3_NetSums.l0
      repeat' first
      | (with_reducible exact ih0 _ _ _ _ _ _ _ _)
      | (with_reducible exact LeO.refl _)
      | (with_reducible exact LeO.none _)
      | (with_reducible refine LeO.ite ?_ ?_)
      | (with_reducible refine LeO.bind ?_ (fun _ => ?_))
      | exact ih0 _ _ _ _ _ _ _ _
      | exact LeO.none _
      | refine LeO.ite ?_ ?_
      | refine LeO.bind ?_ (fun _ => ?_)
theorem racewaylaw3_NetSums.mono : ∀ a0 a1 k, LeO (racewaylaw3_NetSums.f k a0 a1) (racewaylaw3_NetSums.f (k + 1) a0 a1) := by
  intro a0 a1 k
  have ih0 := racewaylaw3_NetSums.mono_l k
  unfold racewaylaw3_NetSums.f
  repeat' first
      | (with_reducible exact ih0 _ _ _ _ _ _ _ _)
      | (with_reducible exact LeO.refl _)
      | (with_reducible exact LeO.none _)
      | (with_reducible refine LeO.ite ?_ ?_)
      | (with_reducible refine LeO.bind ?_ (fun _ => ?_))
      | exact ih0 _ _ _ _ _ _ _ _
      | exact LeO.none _
      | refine LeO.ite ?_ ?_
      | refine LeO.bind ?_ (fun _ => ?_)
def racewaylaw3_NetSums.T17 : Bool × List (List Nat × List Nat) := (true, [([], []), ([0], [0]), ([], []), ([2], [2]), ([3], [3]), ([4], [4]), ([1, 5, 3], [1, 5]), ([0, 1, 2, 3, 4, 5, 6], []), ([7, 6, 6, 0, 1, 2, 3, 4, 5, 6], [6, 7])])
def racewaylaw3_NetSums.B17 : List Nat := [0, 1, 0, 4, 12, 28, 63, 127, 255]
theorem racewaylaw3_NetSums.tab17 : rtab .any (opsOf Try.f3 17) = racewaylaw3_NetSums.T17 := by kernel_rfl
theorem racewaylaw3_NetSums.bits17 : waitsOk racewaylaw3_NetSums.T17.2 racewaylaw3_NetSums.B17 = true := by kernel_rfl
set_option maxHeartbeats 8000000 in
set_option maxRecDepth 100000 in
theorem racewaylaw3_NetSums.calls (k : Nat) (a0 : Int) (a1 : Int) (r : Bool) (w : World) (h : racewaylaw3_NetSums.f k a0 a1 = some r) (hrT_ : Aside0 (r = true)) :
    Calls Try.prog 3 #[.int .i64 a0, .int .i64 a1] w fun e w' => e = .returned (.bool r) ∧ Below w.heap.size w w' := by
  have hu26 := Try.underlying26
  have hu28 := Try.underlying28
  have HB := Aside0.mk (Below.refl w.heap.size w)
  have H : ((racewaylaw3_shown.f).bind fun t108 => (if t108 = true then ((racewaylaw3_pick.f a0 50).bind fun t109 => (racewaylaw3_NetSums.l0 k a1 (wrap64 (1 + t109)) 4611686018427387903 0 2 2 1 ([] : List (S28)))) else (some false))) = some r := h
  clear h
  replace H := Option.bind_eq_some_iff.mp H
  obtain ⟨t108, A30, H⟩ := H
  replace H : (if t108 = true then ((racewaylaw3_pick.f a0 50).bind fun t109 => (racewaylaw3_NetSums.l0 k a1 (wrap64 (1 + t109)) 4611686018427387903 0 2 2 1 ([] : List (S28)))) else (some false)) = some r := H
  have A3 := Aside0.mk A30
  clear A30
  by_cases c4 : t108 = true
  · subst c4
    have H1 : ((racewaylaw3_pick.f a0 50).bind fun t109 => (racewaylaw3_NetSums.l0 k a1 (wrap64 (1 + t109)) 4611686018427387903 0 2 2 1 ([] : List (S28)))) = some r := by rw [if_pos rfl] at H; exact H
    clear H
    have H := H1
    clear H1
    replace H := Option.bind_eq_some_iff.mp H
    obtain ⟨t109, A50, H⟩ := H
    replace H : (racewaylaw3_NetSums.l0 k a1 (wrap64 (1 + t109)) 4611686018427387903 0 2 2 1 ([] : List (S28))) = some r := H
    have A5 := Aside0.mk A50
    clear A50
    have H' := Aside0.mk H
    clear H
    go_enter Try.func3, Try.ntmps3
    go_wp2_with (first | ((with_reducible refine gate_callee (f := 14) rfl ?_); refine goesL_ (some 11) rfl rfl Try.func14 (by kernel_rfl) rfl #[] rfl (by (try simp only [List.map_toArray, List.map_cons, List.map_nil]); first | done | rfl | (simp only [List.length_drop, List.length_take]; rfl)) ?_; (with_reducible refine (racewaylaw3_shown.calls  true _ A3.out).mono ?_); rintro e w6 ⟨rfl, hb⟩; refine ⟨_, rfl, ?_⟩; have n0_ := Aside0.mk (below_step (by repeat (first | (with_reducible first | exact HB.out | apply below_alloc | apply pw_below_drewN | apply below_drew1) | exact HB.out)) hb); clear HB; have HB := n0_; clear n0_; (try clear hb); (try clear hb2); (try clear hk); (try clear hi)) | ((with_reducible refine gate_callee (f := 15) rfl ?_); refine goesL_ (some 15) rfl rfl Try.func15 (by kernel_rfl) rfl #[.int .i64 a0, .int .i64 50] rfl (by (try simp only [List.map_toArray, List.map_cons, List.map_nil]); first | done | rfl | (simp only [List.length_drop, List.length_take]; rfl)) ?_; (with_reducible refine (racewaylaw3_pick.calls a0 50 t109 _ A5.out).mono ?_); rintro e w' ⟨rfl, ⟨nd, rfl⟩⟩; refine ⟨_, rfl, ?_⟩; (try (rw [drewN_self w6]; generalize hq_ : World.drewN w6 _ = w6; have n0_ : Aside0 (Below w.heap.size w w6) := ⟨by rw [← hq_]; exact (by repeat (first | (with_reducible first | exact HB.out | apply below_alloc | apply pw_below_drewN | apply below_drew1) | exact HB.out))⟩; clear HB hq_; have HB := n0_; clear n0_))) | ((with_reducible refine gate_dst (N := 7) rfl ?_); refine box_event ?hg (N := 7) ?hd (cs := #[.int .i64 0, .int .i64 0, .int .i64 0, .slice none 0 0]) (t := 26) ?hr ?_; (case hd => rfl); (case hg => rfl); (case hr => first | (go_simp; done) | (go_simp; rfl)); intro gb110 hg w7 hbox hb; have n0_ := Aside0.mk (below_step (by repeat (first | (with_reducible first | exact HB.out | apply below_alloc | apply pw_below_drewN | apply below_drew1) | exact HB.out)) hb); have n1_ := Aside0.mk (hbox); have n2_ := Aside0.mk ((by rw [hg]; exact (below_size (by repeat (first | (with_reducible first | exact HB.out | apply below_alloc | apply pw_below_drewN | apply below_drew1) | exact HB.out))) : w.heap.size ≤ gb110)); have n3_ := Aside0.mk ((by rw [hg]; exact (below_size (by repeat (first | (with_reducible first | exact HB.out | apply below_alloc | apply pw_below_drewN | apply below_drew1) | exact HB.out))) : w.heap.size ≤ gb110)); clear HB; have HB := n0_; have BK110 := n1_; have GW110 := n2_; have GE110 := n3_; clear n0_ n1_ n2_ n3_; clear hb hbox hg; have hcz8_0 : w7.cell? ⟨gb110, 0, none⟩ = some (.int .i64 0) := (blk_cell BK110.out 0).trans rfl; have hcz8_1 : w7.cell? ⟨gb110, 1, none⟩ = some (.int .i64 0) := (blk_cell BK110.out 1).trans rfl; have hcz8_2 : w7.cell? ⟨gb110, 2, none⟩ = some (.int .i64 0) := (blk_cell BK110.out 2).trans rfl; have hcz8_3 : w7.cell? ⟨gb110, 3, none⟩ = some (.slice none 0 0) := (blk_cell BK110.out 3).trans rfl; have hfz8_0 := blk_frozen BK110.out 0; have hfz8_1 := blk_frozen BK110.out 1; have hfz8_2 := blk_frozen BK110.out 2; have hfz8_3 := blk_frozen BK110.out 3))
    go_loopg [8, 9] k (fun kq v8 v9 w' => ∃ (x8_1 : Int) (x9_1 : Int) (x111003_1 : List (S28)) (u111003 : Value), v8 = .int .i64 x8_1 ∧ v9 = .int .i64 x9_1 ∧ Aside0 (racewaylaw3_NetSums.l0 kq a1 (wrap64 (1 + t109)) x8_1 x9_1 2 2 1 x111003_1 = some r) ∧ Aside0 (kq ≤ k) ∧ Aside0 (Kd.R k28 28 w' w.heap.size (fun _ => True) u111003 x111003_1) ∧ Aside0 (w'.heap[gb110]? = some (.cells #[.int .i64 2, .int .i64 2, .int .i64 1, u111003] 26 (0, 0))) ∧ Aside0 (Below w.heap.size w w'))
    case atStart => exact ⟨(4611686018427387903), (0), (([] : List (S28))), (.slice none 0 0), (by first | rfl | (simp; done) | (simp [*]; done)), (by first | rfl | (simp; done) | (simp [*]; done)), H', ⟨Nat.le_refl _⟩, ⟨by first | exact Kd.R_nil _ _ _ _ _ | exact Kd.N_nil _ _ _ _ _ | exact Kd.V_nil _ _ _ _ _ | exact Kd.Q_nil _ _ _ _ _ | exact Kd.S_nil _ _ _ _ _⟩, ⟨by (with_reducible repeat (first | refine blk_drewN ?_ _ | refine blk_drew ?_ | refine blk_alloc ?_ _)); refine blk_put (cs := #[.int .i64 2, .int .i64 2, .int .i64 1, .slice none 0 0]) ?_ 3 _ rfl; (with_reducible repeat (first | refine blk_drewN ?_ _ | refine blk_drew ?_ | refine blk_alloc ?_ _)); refine blk_put (cs := #[.int .i64 2, .int .i64 2, .int .i64 0, .slice none 0 0]) ?_ 2 _ rfl; (with_reducible repeat (first | refine blk_drewN ?_ _ | refine blk_drew ?_ | refine blk_alloc ?_ _)); refine blk_put (cs := #[.int .i64 2, .int .i64 0, .int .i64 0, .slice none 0 0]) ?_ 1 _ rfl; (with_reducible repeat (first | refine blk_drewN ?_ _ | refine blk_drew ?_ | refine blk_alloc ?_ _)); refine blk_put (cs := #[.int .i64 0, .int .i64 0, .int .i64 0, .slice none 0 0]) ?_ 0 _ rfl; (with_reducible repeat (first | refine blk_drewN ?_ _ | refine blk_drew ?_ | refine blk_alloc ?_ _)); exact BK110.out⟩, ⟨by repeat (first | (with_reducible first | exact HB.out | apply below_alloc | apply pw_below_drewN | apply below_drew1 | refine below_set ?_ GE110.out) | exact HB.out)⟩⟩
    case round =>
      clear H'
      try clear c1
      try clear p2
      try clear c3
      try clear c4
      try clear p6
      try clear hcz8_0
      try clear hcz8_1
      try clear hcz8_2
      try clear hcz8_3
      try clear hfz8_0
      try clear hfz8_1
      try clear hfz8_2
      try clear hfz8_3
      obtain ⟨x8_1, x9_1, x111003_1, u111003, rfl, rfl, HA, HK1, HO_111003, BK110, HB⟩ := hrel
      cases gk with
      | zero => exact absurd HA.out (by simp [racewaylaw3_NetSums.l0])
      | succ k1 =>
        have H := HA.out
        clear HA
        simp only [racewaylaw3_NetSums.l0] at H
        by_cases c9 : x9_1 < (wrap64 (1 + t109))
        · rw [if_pos c9] at H
          have c9b0 : decide (x9_1 < (wrap64 (1 + t109))) = true := decide_eq_true c9
          clear c9
          by_cases c10 : x9_1 = (wrap64 ((wrap64 (1 + t109)) - 1))
          · rw [if_pos c10] at H
            have c10b0 : (x9_1 == (wrap64 ((wrap64 (1 + t109)) - 1))) = true := beq_iff_eq.mpr c10
            have c10b1 : (x9_1 != (wrap64 ((wrap64 (1 + t109)) - 1))) = false := bne_eq_false_iff_eq.mpr c10
            clear c10
            by_cases c11 : x111003_1.length < 5864062014805
            · rw [if_pos c11] at H
              have LMc11 := Aside0.mk c11
              clear c11
              obtain ⟨y111, hy111⟩ : ∃ y_ : List (S28), y_ = (x111003_1 ++ [(⟨wrap64 (1 + (Int.tmod x9_1 2)), wrap64 (1 + (Int.tmod (wrap64 (Int.tdiv x9_1 2)) 2)), x8_1⟩ : S28)]) := ⟨_, rfl⟩
              replace H : (racewaylaw3_NetSums.l0 k1 a1 (wrap64 (1 + t109)) 0 (wrap64 (x9_1 + 1)) 2 2 1 y111) = some r := by first | (rw [hy111]; with_reducible exact H) | (have H2_ := (Option.bind_some _ _).symm.trans H; rw [hy111]; with_reducible exact H2_) | (have H2_ := (Option.bind_some _ _).symm.trans H; with_reducible exact H2_) | with_reducible exact H | (rw [hy111]; exact H) | exact H
              have Ny111 := Aside0.mk hy111
              clear hy111
              have H' := Aside0.mk H
              clear H
              have hcz12_0 : wr.cell? ⟨gb110, 0, none⟩ = some (.int .i64 2) := (blk_cell BK110.out 0).trans rfl
              have hcz12_1 : wr.cell? ⟨gb110, 1, none⟩ = some (.int .i64 2) := (blk_cell BK110.out 1).trans rfl
              have hcz12_2 : wr.cell? ⟨gb110, 2, none⟩ = some (.int .i64 1) := (blk_cell BK110.out 2).trans rfl
              have hcz12_3 : wr.cell? ⟨gb110, 3, none⟩ = some (u111003) := (blk_cell BK110.out 3).trans rfl
              have hfz12_0 := blk_frozen BK110.out 0
              have hfz12_1 := blk_frozen BK110.out 1
              have hfz12_2 := blk_frozen BK110.out 2
              have hfz12_3 := blk_frozen BK110.out 3
              go_wp2_with (first | ((with_reducible refine gate_builtin (b := .append) (xs := #[.tmp 34, .tmp 44]) rfl ?_); at_builtin; refine Kd.R_append k28 (w0 := w) w.heap.size rfl (.tmp 34) (.tmp 44) 24 28 (.agg #[(.int .i64 0), (.int .i64 0), (.int .i64 0)]) 24 rfl Try.underlying24 info28 rfl (by decide) (by omega) u111003 x111003_1 (⟨wrap64 (1 + (Int.tmod x9_1 2)), wrap64 (1 + (Int.tmod (wrap64 (Int.tdiv x9_1 2)) 2)), x8_1⟩ : S28) [.int .i64 (wrap64 (1 + (Int.tmod x9_1 2))), .int .i64 (wrap64 (1 + (Int.tmod (wrap64 (Int.tdiv x9_1 2)) 2))), .int .i64 x8_1] (fun _ => True) (fun _ => False) rfl rfl ?aP (fun _ hk => hk.elim) ?aF ?aO ?aB ?aS ?aL ?_; (case aP => exact k28_mkM _ _ _ (⟨wrap64 (1 + (Int.tmod x9_1 2)), wrap64 (1 + (Int.tmod (wrap64 (Int.tdiv x9_1 2)) 2)), x8_1⟩ : S28)); (case aB => exact (by repeat (first | (with_reducible first | exact HB.out | apply below_alloc | apply pw_below_drewN | apply below_drew1 | refine below_set ?_ GE110.out) | exact HB.out))); (case aF => exact (fun _ _ => trivial)); (case aO => exact (by (with_reducible repeat (first | apply Kd.R_alloc | apply Kd.R_drewN | apply Kd.R_drew)); exact HO_111003.out)); (case aS => exact (below_size (by repeat (first | (with_reducible first | exact HB.out | apply below_alloc | apply pw_below_drewN | apply below_drew1 | refine below_set ?_ GE110.out) | exact HB.out)))); (case aL => have := LMc11.out; omega); intro v112 w13 ho hb hg hat; rw [← Ny111.out] at ho; have n0_ := Aside0.mk (blk_grown (g := gb110) (o := .cells #[.int .i64 2, .int .i64 2, .int .i64 1, u111003] 26 (0, 0)) (by (with_reducible repeat (first | refine blk_drewN ?_ _ | refine blk_drew ?_ | refine blk_alloc ?_ _)); exact BK110.out) hg (Kd.R_ne HO_111003.out BK110.out (by decide))); have n1_ := Aside0.mk (hb); have n2_ := Aside0.mk (ho); clear BK110; clear HB; clear HO_111003; have BK110 := n0_; have HB := n1_; have HO113 := n2_; clear n0_ n1_ n2_; clear ho hb hg hat; obtain ⟨Ao14, co14, eo14⟩ := Kd.R_slice HO113.out; subst eo14; have hcz15_0 : w13.cell? ⟨gb110, 0, none⟩ = some (.int .i64 2) := (blk_cell BK110.out 0).trans rfl; have hcz15_1 : w13.cell? ⟨gb110, 1, none⟩ = some (.int .i64 2) := (blk_cell BK110.out 1).trans rfl; have hcz15_2 : w13.cell? ⟨gb110, 2, none⟩ = some (.int .i64 1) := (blk_cell BK110.out 2).trans rfl; have hcz15_3 : w13.cell? ⟨gb110, 3, none⟩ = some (u111003) := (blk_cell BK110.out 3).trans rfl; have hfz15_0 := blk_frozen BK110.out 0; have hfz15_1 := blk_frozen BK110.out 1; have hfz15_2 := blk_frozen BK110.out 2; have hfz15_3 := blk_frozen BK110.out 3))
              go_roundg k1
              case measure => have := HK1.out; omega
              case rel => exact ⟨(0), (wrap64 (x9_1 + 1)), (y111), (.slice Ao14 y111.length co14), (by first | rfl | (simp; done) | (simp [*]; done)), (by first | rfl | (simp; done) | (simp [*]; done)), H', ⟨by have := HK1.out; omega⟩, ⟨by (with_reducible repeat (first | apply Kd.R_alloc | apply Kd.R_drewN | apply Kd.R_drew)); exact Kd.R_mono (Kd.R_far (p := ⟨gb110, 3, none⟩) (Kd.R_types HO113.out BK110.out (by decide)) (fun _ hk => hk.2) (.slice Ao14 y111.length co14)) (fun _ hk => trivial)⟩, ⟨by (with_reducible repeat (first | refine blk_drewN ?_ _ | refine blk_drew ?_ | refine blk_alloc ?_ _)); refine blk_put (cs := #[.int .i64 2, .int .i64 2, .int .i64 1, u111003]) ?_ 3 _ rfl; (with_reducible repeat (first | refine blk_drewN ?_ _ | refine blk_drew ?_ | refine blk_alloc ?_ _)); exact BK110.out⟩, ⟨by repeat (first | (with_reducible first | exact HB.out | apply below_alloc | apply pw_below_drewN | apply below_drew1 | refine below_set ?_ GE110.out) | exact HB.out)⟩⟩
            · rw [if_neg c11] at H
              exact absurd H (by simp)
          · rw [if_neg c10] at H
            have c10b0 : (x9_1 == (wrap64 ((wrap64 (1 + t109)) - 1))) = false := beq_eq_false_iff_ne.mpr c10
            have c10b1 : (x9_1 != (wrap64 ((wrap64 (1 + t109)) - 1))) = true := bne_iff_ne.mpr c10
            by_cases c16 : x111003_1.length < 5864062014805
            · rw [if_pos c16] at H
              have LMc16 := Aside0.mk c16
              clear c16
              obtain ⟨y114, hy114⟩ : ∃ y_ : List (S28), y_ = (x111003_1 ++ [(⟨wrap64 (1 + (Int.tmod x9_1 2)), wrap64 (1 + (Int.tmod (wrap64 (Int.tdiv x9_1 2)) 2)), wrap64 (Int.tdiv x8_1 2)⟩ : S28)]) := ⟨_, rfl⟩
              replace H : (racewaylaw3_NetSums.l0 k1 a1 (wrap64 (1 + t109)) (wrap64 (x8_1 - (wrap64 (Int.tdiv x8_1 2)))) (wrap64 (x9_1 + 1)) 2 2 1 y114) = some r := by first | (rw [hy114]; with_reducible exact H) | (have H2_ := (Option.bind_some _ _).symm.trans H; rw [hy114]; with_reducible exact H2_) | (have H2_ := (Option.bind_some _ _).symm.trans H; with_reducible exact H2_) | with_reducible exact H | (rw [hy114]; exact H) | exact H
              have Ny114 := Aside0.mk hy114
              clear hy114
              have H' := Aside0.mk H
              clear H
              have hcz17_0 : wr.cell? ⟨gb110, 0, none⟩ = some (.int .i64 2) := (blk_cell BK110.out 0).trans rfl
              have hcz17_1 : wr.cell? ⟨gb110, 1, none⟩ = some (.int .i64 2) := (blk_cell BK110.out 1).trans rfl
              have hcz17_2 : wr.cell? ⟨gb110, 2, none⟩ = some (.int .i64 1) := (blk_cell BK110.out 2).trans rfl
              have hcz17_3 : wr.cell? ⟨gb110, 3, none⟩ = some (u111003) := (blk_cell BK110.out 3).trans rfl
              have hfz17_0 := blk_frozen BK110.out 0
              have hfz17_1 := blk_frozen BK110.out 1
              have hfz17_2 := blk_frozen BK110.out 2
              have hfz17_3 := blk_frozen BK110.out 3
              go_wp2_with (first | ((with_reducible refine gate_builtin (b := .append) (xs := #[.tmp 34, .tmp 44]) rfl ?_); at_builtin; refine Kd.R_append k28 (w0 := w) w.heap.size rfl (.tmp 34) (.tmp 44) 24 28 (.agg #[(.int .i64 0), (.int .i64 0), (.int .i64 0)]) 24 rfl Try.underlying24 info28 rfl (by decide) (by omega) u111003 x111003_1 (⟨wrap64 (1 + (Int.tmod x9_1 2)), wrap64 (1 + (Int.tmod (wrap64 (Int.tdiv x9_1 2)) 2)), wrap64 (Int.tdiv x8_1 2)⟩ : S28) [.int .i64 (wrap64 (1 + (Int.tmod x9_1 2))), .int .i64 (wrap64 (1 + (Int.tmod (wrap64 (Int.tdiv x9_1 2)) 2))), .int .i64 (wrap64 (Int.tdiv x8_1 2))] (fun _ => True) (fun _ => False) rfl rfl ?aP (fun _ hk => hk.elim) ?aF ?aO ?aB ?aS ?aL ?_; (case aP => exact k28_mkM _ _ _ (⟨wrap64 (1 + (Int.tmod x9_1 2)), wrap64 (1 + (Int.tmod (wrap64 (Int.tdiv x9_1 2)) 2)), wrap64 (Int.tdiv x8_1 2)⟩ : S28)); (case aB => exact (by repeat (first | (with_reducible first | exact HB.out | apply below_alloc | apply pw_below_drewN | apply below_drew1 | refine below_set ?_ GE110.out) | exact HB.out))); (case aF => exact (fun _ _ => trivial)); (case aO => exact (by (with_reducible repeat (first | apply Kd.R_alloc | apply Kd.R_drewN | apply Kd.R_drew)); exact HO_111003.out)); (case aS => exact (below_size (by repeat (first | (with_reducible first | exact HB.out | apply below_alloc | apply pw_below_drewN | apply below_drew1 | refine below_set ?_ GE110.out) | exact HB.out)))); (case aL => have := LMc16.out; omega); intro v115 w18 ho hb hg hat; rw [← Ny114.out] at ho; have n0_ := Aside0.mk (blk_grown (g := gb110) (o := .cells #[.int .i64 2, .int .i64 2, .int .i64 1, u111003] 26 (0, 0)) (by (with_reducible repeat (first | refine blk_drewN ?_ _ | refine blk_drew ?_ | refine blk_alloc ?_ _)); exact BK110.out) hg (Kd.R_ne HO_111003.out BK110.out (by decide))); have n1_ := Aside0.mk (hb); have n2_ := Aside0.mk (ho); clear BK110; clear HB; clear HO_111003; have BK110 := n0_; have HB := n1_; have HO116 := n2_; clear n0_ n1_ n2_; clear ho hb hg hat; obtain ⟨Ao19, co19, eo19⟩ := Kd.R_slice HO116.out; subst eo19; have hcz20_0 : w18.cell? ⟨gb110, 0, none⟩ = some (.int .i64 2) := (blk_cell BK110.out 0).trans rfl; have hcz20_1 : w18.cell? ⟨gb110, 1, none⟩ = some (.int .i64 2) := (blk_cell BK110.out 1).trans rfl; have hcz20_2 : w18.cell? ⟨gb110, 2, none⟩ = some (.int .i64 1) := (blk_cell BK110.out 2).trans rfl; have hcz20_3 : w18.cell? ⟨gb110, 3, none⟩ = some (u111003) := (blk_cell BK110.out 3).trans rfl; have hfz20_0 := blk_frozen BK110.out 0; have hfz20_1 := blk_frozen BK110.out 1; have hfz20_2 := blk_frozen BK110.out 2; have hfz20_3 := blk_frozen BK110.out 3))
              go_roundg k1
              case measure => have := HK1.out; omega
              case rel => exact ⟨(wrap64 (x8_1 - (wrap64 (Int.tdiv x8_1 2)))), (wrap64 (x9_1 + 1)), (y114), (.slice Ao19 y114.length co19), (by first | rfl | (simp; done) | (simp [*]; done)), (by first | rfl | (simp; done) | (simp [*]; done)), H', ⟨by have := HK1.out; omega⟩, ⟨by (with_reducible repeat (first | apply Kd.R_alloc | apply Kd.R_drewN | apply Kd.R_drew)); exact Kd.R_mono (Kd.R_far (p := ⟨gb110, 3, none⟩) (Kd.R_types HO116.out BK110.out (by decide)) (fun _ hk => hk.2) (.slice Ao19 y114.length co19)) (fun _ hk => trivial)⟩, ⟨by (with_reducible repeat (first | refine blk_drewN ?_ _ | refine blk_drew ?_ | refine blk_alloc ?_ _)); refine blk_put (cs := #[.int .i64 2, .int .i64 2, .int .i64 1, u111003]) ?_ 3 _ rfl; (with_reducible repeat (first | refine blk_drewN ?_ _ | refine blk_drew ?_ | refine blk_alloc ?_ _)); exact BK110.out⟩, ⟨by repeat (first | (with_reducible first | exact HB.out | apply below_alloc | apply pw_below_drewN | apply below_drew1 | refine below_set ?_ GE110.out) | exact HB.out)⟩⟩
            · rw [if_neg c16] at H
              exact absurd H (by simp)
        · rw [if_neg c9] at H
          have c9b0 : decide (x9_1 < (wrap64 (1 + t109))) = false := decide_eq_false c9
          clear c9
          replace H := Option.bind_eq_some_iff.mp H
          obtain ⟨t117, A210, H⟩ := H
          replace H : (if t117 = 0 then ((racewaylaw3_pick.f a1 3).bind fun t118 => (if x111003_1.length < 5864062014805 then ((some (x111003_1 ++ [(⟨1, 1, t118⟩ : S28)] : List (S28))).bind fun y119 => ((net_Check.f 2 2 1 y119).bind fun t122 => ((racewaylaw3_pick.f a1 3).bind fun t118 => (if t122 = 0 then (if t118 = 0 then ((net_Check.f 2 2 1 y119).bind fun t122 => (some true)) else (some false)) else (if t118 = 0 then (some false) else ((net_Check.f 2 2 1 y119).bind fun t122 => ((net_Check.f 2 2 1 y119).bind fun t122 => (some (t122 == 7))))))))) else (none))) else (some false)) = some r := H
          have A21 := Aside0.mk A210
          clear A210
          by_cases c22 : t117 = 0
          · rw [if_pos c22] at H
            have c22b0 : (t117 == 0) = true := beq_iff_eq.mpr c22
            have c22b1 : (t117 != 0) = false := bne_eq_false_iff_eq.mpr c22
            clear c22
            replace H := Option.bind_eq_some_iff.mp H
            obtain ⟨t118, A230, H⟩ := H
            replace H : (if x111003_1.length < 5864062014805 then ((some (x111003_1 ++ [(⟨1, 1, t118⟩ : S28)] : List (S28))).bind fun y119 => ((net_Check.f 2 2 1 y119).bind fun t122 => ((racewaylaw3_pick.f a1 3).bind fun t118 => (if t122 = 0 then (if t118 = 0 then ((net_Check.f 2 2 1 y119).bind fun t122 => (some true)) else (some false)) else (if t118 = 0 then (some false) else ((net_Check.f 2 2 1 y119).bind fun t122 => ((net_Check.f 2 2 1 y119).bind fun t122 => (some (t122 == 7))))))))) else (none)) = some r := H
            have A23 := Aside0.mk A230
            clear A230
            by_cases c24 : x111003_1.length < 5864062014805
            · rw [if_pos c24] at H
              have LMc24 := Aside0.mk c24
              clear c24
              obtain ⟨y119, hy119⟩ : ∃ y_ : List (S28), y_ = (x111003_1 ++ [(⟨1, 1, t118⟩ : S28)]) := ⟨_, rfl⟩
              replace H : ((net_Check.f 2 2 1 y119).bind fun t122 => ((racewaylaw3_pick.f a1 3).bind fun t118 => (if t122 = 0 then (if t118 = 0 then ((net_Check.f 2 2 1 y119).bind fun t122 => (some true)) else (some false)) else (if t118 = 0 then (some false) else ((net_Check.f 2 2 1 y119).bind fun t122 => ((net_Check.f 2 2 1 y119).bind fun t122 => (some (t122 == 7)))))))) = some r := by first | (rw [hy119]; with_reducible exact H) | (have H2_ := (Option.bind_some _ _).symm.trans H; rw [hy119]; with_reducible exact H2_) | (have H2_ := (Option.bind_some _ _).symm.trans H; with_reducible exact H2_) | with_reducible exact H | (rw [hy119]; exact H) | exact H
              have Ny119 := Aside0.mk hy119
              clear hy119
              replace H := Option.bind_eq_some_iff.mp H
              obtain ⟨t122, A250, H⟩ := H
              replace H : ((racewaylaw3_pick.f a1 3).bind fun t118 => (if t122 = 0 then (if t118 = 0 then ((net_Check.f 2 2 1 y119).bind fun t122 => (some true)) else (some false)) else (if t118 = 0 then (some false) else ((net_Check.f 2 2 1 y119).bind fun t122 => ((net_Check.f 2 2 1 y119).bind fun t122 => (some (t122 == 7))))))) = some r := H
              have A25 := Aside0.mk A250
              clear A250
              replace H := Option.bind_eq_some_iff.mp H
              obtain ⟨t118d, A260, H⟩ := H
              have E_ := Option.some.inj (A23.out.symm.trans A260)
              (try simp only [Prod.mk.injEq] at E_)
              obtain rfl := E_
              replace H : (if t122 = 0 then (if t118 = 0 then ((net_Check.f 2 2 1 y119).bind fun t122 => (some true)) else (some false)) else (if t118 = 0 then (some false) else ((net_Check.f 2 2 1 y119).bind fun t122 => ((net_Check.f 2 2 1 y119).bind fun t122 => (some (t122 == 7)))))) = some r := H
              have A26 := Aside0.mk A260
              clear A260
              by_cases c27 : t122 = 0
              · rw [if_pos c27] at H
                have c27b0 : (t122 == 0) = true := beq_iff_eq.mpr c27
                have c27b1 : (t122 != 0) = false := bne_eq_false_iff_eq.mpr c27
                clear c27
                by_cases c28 : t118 = 0
                · rw [if_pos c28] at H
                  have c28b0 : (t118 == 0) = true := beq_iff_eq.mpr c28
                  have c28b1 : (t118 != 0) = false := bne_eq_false_iff_eq.mpr c28
                  clear c28
                  replace H := Option.bind_eq_some_iff.mp H
                  obtain ⟨t122d, A290, H⟩ := H
                  have E_ := Option.some.inj (A25.out.symm.trans A290)
                  (try simp only [Prod.mk.injEq] at E_)
                  obtain rfl := E_
                  replace H : (some true) = some r := H
                  have A29 := Aside0.mk A290
                  clear A290
                  obtain rfl := Option.some.inj H
                  have hcz30_0 : wr.cell? ⟨gb110, 0, none⟩ = some (.int .i64 2) := (blk_cell BK110.out 0).trans rfl
                  have hcz30_1 : wr.cell? ⟨gb110, 1, none⟩ = some (.int .i64 2) := (blk_cell BK110.out 1).trans rfl
                  have hcz30_2 : wr.cell? ⟨gb110, 2, none⟩ = some (.int .i64 1) := (blk_cell BK110.out 2).trans rfl
                  have hcz30_3 : wr.cell? ⟨gb110, 3, none⟩ = some (u111003) := (blk_cell BK110.out 3).trans rfl
                  have hfz30_0 := blk_frozen BK110.out 0
                  have hfz30_1 := blk_frozen BK110.out 1
                  have hfz30_2 := blk_frozen BK110.out 2
                  have hfz30_3 := blk_frozen BK110.out 3
                  obtain ⟨Ao31, co31, eo31⟩ := Kd.R_slice HO_111003.out
                  subst eo31
                  try go_wp2_with (first | ((with_reducible refine gate_callee (f := 16) rfl ?_); refine goesL_ (some 48) rfl rfl Try.func16 (by kernel_rfl) rfl #[.agg #[.int .i64 2, .int .i64 2, .int .i64 1, .slice Ao31 x111003_1.length co31]] rfl (by (try simp only [List.map_toArray, List.map_cons, List.map_nil]); first | done | rfl | (simp only [List.length_drop, List.length_take]; rfl)) ?_; (with_reducible refine (net_Check.calls 2 2 1 _ _ x111003_1 t117 _ ?side1 ?side2 A21.out).mono ?_); (case side1 => repeat (first | exact (Kd.R_reads' HO_111003.out).2.2 | (with_reducible refine Kd.C_alloc ?_ _) | (with_reducible refine Kd.C_drewN ?_ _) | (with_reducible refine Kd.C_drew ?_))); (case side2 => exact (Kd.R_reads' HO_111003.out).2.1); rintro e w32 ⟨rfl, hb⟩; refine ⟨_, rfl, ?_⟩; have n0_ := Aside0.mk (Kd.R_below (by (with_reducible repeat (first | apply Kd.R_alloc | apply Kd.R_drewN | apply Kd.R_drew)); exact HO_111003.out) hb); have n1_ := Aside0.mk (blk_below (g := gb110) (o := .cells #[.int .i64 2, .int .i64 2, .int .i64 1, .slice Ao31 x111003_1.length co31] 26 (0, 0)) (by (with_reducible repeat (first | refine blk_drewN ?_ _ | refine blk_drew ?_ | refine blk_alloc ?_ _)); exact BK110.out) hb); have n2_ := Aside0.mk (below_step (by repeat (first | (with_reducible first | exact HB.out | apply below_alloc | apply pw_below_drewN | apply below_drew1 | refine below_set ?_ GE110.out) | exact HB.out)) hb); clear HO_111003; clear BK110; clear HB; have HO_111003 := n0_; have BK110 := n1_; have HB := n2_; clear n0_ n1_ n2_; (try clear hb); (try clear hb2); (try clear hk); (try clear hi)))
                  have n0_ := Aside0.mk (Kd.R_drew HO_111003.out)
                  have n1_ := Aside0.mk (blk_drew BK110.out)
                  have n2_ := Aside0.mk (below_drew1 HB.out)
                  clear HO_111003
                  clear BK110
                  clear HB
                  have HO_111003 := n0_
                  have BK110 := n1_
                  have HB := n2_
                  clear n0_ n1_ n2_
                  refine start_ (n := 9) (S := fun w' => w'.cell? ⟨gb110, 0, none⟩ = some (.int .i64 2) ∧ w'.cell? ⟨gb110, 1, none⟩ = some (.int .i64 2) ∧ w'.cell? ⟨gb110, 2, none⟩ = some (.int .i64 1) ∧ w'.cell? ⟨gb110, 3, none⟩ = some (.slice Ao31 x111003_1.length co31)) (ds := [8]) #[false, false, false, false, false, false, false, false, false] (by kernel_rfl) rfl rfl ⟨(blk_cell BK110.out 0).trans rfl, (blk_cell BK110.out 1).trans rfl, (blk_cell BK110.out 2).trans rfl, (blk_cell BK110.out 3).trans rfl⟩ (fun hHeld => ?_); refine with_tabW racewaylaw3_NetSums.tab17 racewaylaw3_NetSums.bits17 (fun HT_ HW_ => ?_)
                  generalize w32.drew = w33 at HO_111003 BK110 HB hHeld ⊢
                  refine pure_ (i := 0) (N := some 50) (v := ?_) (a' := ?_) #[true, false, false, false, false, false, false, false, false] rfl rfl (any_of HT_.out (by kernel_rfl)) (fun _ _ _ h => h) (Or.inl ⟨by rfl, ?_⟩) ?_ ?_
                  rotate_left
                  · intro w'
                    go_simp
                    with_reducible rfl
                  rotate_left
                  · simp only [Act.put, List.setIfInBounds_toArray, List.set_cons_zero, List.set_cons_succ, i64_w, i32_w]
                    rfl
                  refine pure_ (i := 2) (N := some 52) (v := ?_) (a' := ?_) #[true, false, true, false, false, false, false, false, false] rfl rfl (any_of HT_.out (by kernel_rfl)) (fun _ _ _ h => h) (Or.inl ⟨by rfl, ?_⟩) ?_ ?_
                  rotate_left
                  · intro w'
                    go_simp
                    with_reducible rfl
                  rotate_left
                  · simp only [Act.put, List.setIfInBounds_toArray, List.set_cons_zero, List.set_cons_succ, i64_w, i32_w]
                    rfl
                  refine take_ (i := 1) (N := some 51) (v := ?_) (a' := ?_) #[true, true, true, false, false, false, false, false, false] rfl rfl (take_ofW HT_.out HW_.out (by kernel_rfl)) (fun _ _ _ h => h) (Or.inl ⟨by rfl, ?_⟩) hHeld ?_ ?_
                  rotate_left
                  · rintro w' ⟨s0, s1, s2, s3⟩
                    go_simp
                    with_reducible rfl
                  rotate_left
                  · simp only [Act.put, List.setIfInBounds_toArray, List.set_cons_zero, List.set_cons_succ, i64_w, i32_w]
                    rfl
                  refine one_ (i := 3) (N := some 53) #[true, true, true, true, false, false, false, false, false] rfl rfl (one_of HT_.out (by kernel_rfl)) (by decide) (fun K hK => ?_)
                  refine goes_ Try.func15 (by kernel_rfl) rfl #[.int .i64 a1, .int .i64 3] (by rfl) rfl rfl (by (try simp only [List.map_toArray, List.map_cons, List.map_nil]); first | done | rfl | (simp only [List.length_drop, List.length_take]; rfl)) ?_
                  with_reducible refine (racewaylaw3_pick.calls a1 3 t118 _ A23.out).mono ?_
                  rintro e w' ⟨rfl, ⟨nd, rfl⟩⟩
                  refine ⟨_, rfl, ?_⟩
                  refine hK.out _ _ ⟨(blk_cell BK110.out 0).trans rfl, (blk_cell BK110.out 1).trans rfl, (blk_cell BK110.out 2).trans rfl, (blk_cell BK110.out 3).trans rfl⟩ (fun hHeld => ?_)
                  clear hK K
                  refine norm_ (a' := ?_) ?_ ?_
                  rotate_left
                  · show Act.put _ (some 53) _ = _
                    simp only [Act.put, List.setIfInBounds_toArray, List.set_cons_zero, List.set_cons_succ, i64_w, i32_w]
                    rfl
                  refine pure_ (i := 4) (N := some 54) (v := ?_) (a' := ?_) #[true, true, true, true, true, false, false, false, false] rfl rfl (any_of HT_.out (by kernel_rfl)) (fun _ _ _ h => h) (Or.inl ⟨by rfl, ?_⟩) ?_ ?_
                  rotate_left
                  · intro w'
                    go_simp
                    with_reducible rfl
                  rotate_left
                  · simp only [Act.put, List.setIfInBounds_toArray, List.set_cons_zero, List.set_cons_succ, i64_w, i32_w]
                    rfl
                  refine one_ (i := 5) (N := some 55) #[true, true, true, true, true, true, false, false, false] rfl rfl (one_of HT_.out (by kernel_rfl)) (by decide) (fun K hK => ?_)
                  refine value_ (w1 := ?_) (v := ?_) (by rfl) rfl ?_ ?_
                  rotate_left 2
                  · go_simp
                    constructor
                    · rfl
                    · rfl
                  refine hK.out _ _ ⟨(blk_cell (blk_alloc BK110.out _) 0).trans rfl, (blk_cell (blk_alloc BK110.out _) 1).trans rfl, (blk_cell (blk_alloc BK110.out _) 2).trans rfl, (blk_cell (blk_alloc BK110.out _) 3).trans rfl⟩ (fun hHeld => ?_)
                  clear hK K
                  refine norm_ (a' := ?_) ?_ ?_
                  rotate_left
                  · show Act.put _ (some 55) _ = _
                    simp only [Act.put, List.setIfInBounds_toArray, List.set_cons_zero, List.set_cons_succ, i64_w, i32_w]
                    rfl
                  refine one_ (i := 6) (N := some 56) #[true, true, true, true, true, true, true, false, false] rfl rfl (one_of HT_.out (by kernel_rfl)) (by decide) (fun K hK => ?_)
                  refine Kd.R_append_step k28 (w0 := w) w.heap.size (by rfl) (.tmp 51) (.tmp 55) 24 28 (.agg #[(.int .i64 0), (.int .i64 0), (.int .i64 0)]) 24 rfl Try.underlying24 info28 rfl (by decide) (by omega) (.slice Ao31 x111003_1.length co31) x111003_1 (⟨1, 1, t118⟩ : S28) [.int .i64 1, .int .i64 1, .int .i64 t118] (fun _ => True) (fun _ => False) rfl rfl ?aP (fun _ hk => hk.elim) ?aF ?aO ?aB ?aS ?aL ?_
                  (case aP => exact k28_mkM _ _ _ (⟨1, 1, t118⟩ : S28))
                  (case aB => exact (by repeat (first | (with_reducible first | exact HB.out | apply below_alloc | apply pw_below_drewN | apply below_drew1 | refine below_set ?_ GE110.out) | exact HB.out)))
                  (case aF => exact (fun _ _ => trivial))
                  (case aO => exact (by (with_reducible repeat (first | apply Kd.R_alloc | apply Kd.R_drewN | apply Kd.R_drew)); exact HO_111003.out))
                  (case aS => exact (below_size (by repeat (first | (with_reducible first | exact HB.out | apply below_alloc | apply pw_below_drewN | apply below_drew1 | refine below_set ?_ GE110.out) | exact HB.out))))
                  (case aL => have := LMc24.out; omega)
                  intro v120 w34 ho hb hg hat
                  rw [← Ny119.out] at ho
                  have n0_ := Aside0.mk (blk_grown (g := gb110) (o := .cells #[.int .i64 2, .int .i64 2, .int .i64 1, .slice Ao31 x111003_1.length co31] 26 (0, 0)) (by (with_reducible repeat (first | refine blk_drewN ?_ _ | refine blk_drew ?_ | refine blk_alloc ?_ _)); exact BK110.out) hg (Kd.R_ne HO_111003.out BK110.out (by decide)))
                  have n1_ := Aside0.mk (hb)
                  have n2_ := Aside0.mk (ho)
                  clear BK110
                  clear HB
                  clear HO_111003
                  have BK110 := n0_
                  have HB := n1_
                  have HO121 := n2_
                  clear n0_ n1_ n2_
                  clear ho hb hg hat
                  obtain ⟨Ao35, co35, eo35⟩ := Kd.R_slice HO121.out
                  (first | subst eo35 | (injection eo35 with f1_ f2_ f3_; have f4_ := f1_.symm; have f5_ := f3_.symm; clear f1_ f2_ f3_; subst f4_; subst f5_))
                  refine hK.out _ _ ⟨(blk_cell BK110.out 0).trans rfl, (blk_cell BK110.out 1).trans rfl, (blk_cell BK110.out 2).trans rfl, (blk_cell BK110.out 3).trans rfl⟩ (fun hHeld => ?_)
                  clear hK K
                  refine norm_ (a' := ?_) ?_ ?_
                  rotate_left
                  · show Act.put _ (some 56) _ = _
                    simp only [Act.put, List.setIfInBounds_toArray, List.set_cons_zero, List.set_cons_succ, i64_w, i32_w]
                    rfl
                  refine pure_ (i := 7) (N := some 57) (v := ?_) (a' := ?_) #[true, true, true, true, true, true, true, true, false] rfl rfl (any_of HT_.out (by kernel_rfl)) (fun _ _ _ h => h) (Or.inl ⟨by rfl, ?_⟩) ?_ ?_
                  rotate_left
                  · intro w'
                    go_simp
                    with_reducible rfl
                  rotate_left
                  · simp only [Act.put, List.setIfInBounds_toArray, List.set_cons_zero, List.set_cons_succ, i64_w, i32_w]
                    rfl
                  refine last_ (i := 8) (N := none) #[true, true, true, true, true, true, true, true, true] rfl rfl (one_of HT_.out (by kernel_rfl)) (by decide) (fun K hK => ?_)
                  have hs36 : w34.cell? ⟨gb110, 3, none⟩ = some (.slice Ao31 x111003_1.length co31) := (blk_cell BK110.out 3).trans rfl
                  have hfs36 := blk_frozen BK110.out 3
                  refine skip_ (w1 := ?_) (by rfl) rfl ?_ ?_
                  rotate_left
                  · go_simp
                    rfl
                  refine hK.out _ _ ?_
                  clear hK K
                  refine done_ (done_of HT_.out (by kernel_rfl)) ?_
                  have hcz37_0 : w34.cell? ⟨gb110, 0, none⟩ = some (.int .i64 2) := (blk_cell BK110.out 0).trans rfl
                  have hcz37_1 : w34.cell? ⟨gb110, 1, none⟩ = some (.int .i64 2) := (blk_cell BK110.out 1).trans rfl
                  have hcz37_2 : w34.cell? ⟨gb110, 2, none⟩ = some (.int .i64 1) := (blk_cell BK110.out 2).trans rfl
                  have hcz37_3 : w34.cell? ⟨gb110, 3, none⟩ = some (.slice Ao31 x111003_1.length co31) := (blk_cell BK110.out 3).trans rfl
                  have hfz37_0 := blk_frozen BK110.out 0
                  have hfz37_1 := blk_frozen BK110.out 1
                  have hfz37_2 := blk_frozen BK110.out 2
                  have hfz37_3 := blk_frozen BK110.out 3
                  try go_wp2_with (first | ((with_reducible refine gate_callee (f := 16) rfl ?_); refine goesL_ (some 59) rfl rfl Try.func16 (by kernel_rfl) rfl #[.agg #[.int .i64 2, .int .i64 2, .int .i64 1, .slice Ao35 y119.length co35]] rfl (by (try simp only [List.map_toArray, List.map_cons, List.map_nil]); first | done | rfl | (simp only [List.length_drop, List.length_take]; rfl)) ?_; (with_reducible refine (net_Check.calls 2 2 1 _ _ y119 t122 _ ?side1 ?side2 A25.out).mono ?_); (case side1 => refine (Kd.R_reads' (e := 28) (base := w.heap.size) (ok := fun k_ => True) (n := y119.length) (c := co35) ?_).2.2; exact (by (with_reducible repeat (first | apply Kd.R_alloc | apply Kd.R_drewN | apply Kd.R_drew)); exact (Kd.R_mono (Kd.R_far (p := ⟨gb110, 3, none⟩) (Kd.R_types HO121.out BK110.out (by decide)) (fun _ hk => hk.2) (.slice Ao35 y119.length co35)) (fun _ h_ => h_.1)))); (case side2 => exact (Kd.R_reads' HO121.out).2.1); rintro e w38 ⟨rfl, hb⟩; refine ⟨_, rfl, ?_⟩; have n0_ := Aside0.mk (Kd.R_below (by (with_reducible repeat (first | apply Kd.R_alloc | apply Kd.R_drewN | apply Kd.R_drew)); exact (Kd.R_mono (Kd.R_far (p := ⟨gb110, 3, none⟩) (Kd.R_types HO121.out BK110.out (by decide)) (fun _ hk => hk.2) (.slice Ao35 y119.length co35)) (fun _ h_ => h_.1))) hb); have n1_ := Aside0.mk (blk_below (g := gb110) (o := .cells #[.int .i64 2, .int .i64 2, .int .i64 1, .slice Ao35 y119.length co35] 26 (0, 0)) (by (with_reducible repeat (first | refine blk_drewN ?_ _ | refine blk_drew ?_ | refine blk_alloc ?_ _)); refine blk_put (cs := #[.int .i64 2, .int .i64 2, .int .i64 1, .slice Ao31 x111003_1.length co31]) ?_ 3 _ rfl; (with_reducible repeat (first | refine blk_drewN ?_ _ | refine blk_drew ?_ | refine blk_alloc ?_ _)); exact BK110.out) hb); have n2_ := Aside0.mk (below_step (by repeat (first | (with_reducible first | exact HB.out | apply below_alloc | apply pw_below_drewN | apply below_drew1 | refine below_set ?_ GE110.out) | exact HB.out)) hb); clear HO121; clear BK110; clear HB; have HO121 := n0_; have BK110 := n1_; have HB := n2_; clear n0_ n1_ n2_; (try clear hb); (try clear hb2); (try clear hk); (try clear hi)) | ((with_reducible refine gate_callee (f := 15) rfl ?_); refine goesL_ (some 62) rfl rfl Try.func15 (by kernel_rfl) rfl #[.int .i64 a1, .int .i64 3] rfl (by (try simp only [List.map_toArray, List.map_cons, List.map_nil]); first | done | rfl | (simp only [List.length_drop, List.length_take]; rfl)) ?_; (with_reducible refine (racewaylaw3_pick.calls a1 3 t118 _ A26.out).mono ?_); rintro e w' ⟨rfl, ⟨nd, rfl⟩⟩; refine ⟨_, rfl, ?_⟩; have hcz39_0 : w38.cell? ⟨gb110, 0, none⟩ = some (.int .i64 2) := (blk_cell BK110.out 0).trans rfl; have hcz39_1 : w38.cell? ⟨gb110, 1, none⟩ = some (.int .i64 2) := (blk_cell BK110.out 1).trans rfl; have hcz39_2 : w38.cell? ⟨gb110, 2, none⟩ = some (.int .i64 1) := (blk_cell BK110.out 2).trans rfl; have hcz39_3 : w38.cell? ⟨gb110, 3, none⟩ = some (.slice Ao35 y119.length co35) := (blk_cell BK110.out 3).trans rfl; have hfz39_0 := blk_frozen BK110.out 0; have hfz39_1 := blk_frozen BK110.out 1; have hfz39_2 := blk_frozen BK110.out 2; have hfz39_3 := blk_frozen BK110.out 3) | (go_at_call 16; (with_reducible refine (net_Check.calls 2 2 1 _ _ y119 t122 _ ?side1 ?side2 A29.out).mono ?_); (case side1 => repeat (first | exact (Kd.R_reads' HO121.out).2.2 | (with_reducible refine Kd.C_alloc ?_ _) | (with_reducible refine Kd.C_drewN ?_ _) | (with_reducible refine Kd.C_drew ?_))); (case side2 => exact (Kd.R_reads' HO121.out).2.1); rintro e w40 ⟨rfl, hb⟩; have n0_ := Aside0.mk (Kd.R_below (by (with_reducible repeat (first | apply Kd.R_alloc | apply Kd.R_drewN | apply Kd.R_drew)); exact HO121.out) hb); have n1_ := Aside0.mk (blk_below (g := gb110) (o := .cells #[.int .i64 2, .int .i64 2, .int .i64 1, .slice Ao35 y119.length co35] 26 (0, 0)) (by (with_reducible repeat (first | refine blk_drewN ?_ _ | refine blk_drew ?_ | refine blk_alloc ?_ _)); exact BK110.out) hb); have n2_ := Aside0.mk (below_step (by repeat (first | (with_reducible first | exact HB.out | apply below_alloc | apply pw_below_drewN | apply below_drew1 | refine below_set ?_ GE110.out) | exact HB.out)) hb); clear HO121; clear BK110; clear HB; have HO121 := n0_; have BK110 := n1_; have HB := n2_; clear n0_ n1_ n2_; (try clear hb); (try clear hb2); (try clear hk); (try clear hi)))
                  go_ret
                  exact ⟨by first | rfl | (simp [errW_none, errW_some] <;> rfl) | (simp [*, errW_none, errW_some] <;> rfl), by repeat (first | (with_reducible first | exact HB.out | apply below_alloc | apply pw_below_drewN | apply below_drew1 | refine below_set ?_ GE110.out) | exact HB.out)⟩
                · rw [if_neg c28] at H
                  have c28b0 : (t118 == 0) = false := beq_eq_false_iff_ne.mpr c28
                  have c28b1 : (t118 != 0) = true := bne_iff_ne.mpr c28
                  exact absurd ((Option.some.inj H).trans hrT_.out) (by simp)
              · rw [if_neg c27] at H
                have c27b0 : (t122 == 0) = false := beq_eq_false_iff_ne.mpr c27
                have c27b1 : (t122 != 0) = true := bne_iff_ne.mpr c27
                by_cases c41 : t118 = 0
                · rw [if_pos c41] at H
                  have c41b0 : (t118 == 0) = true := beq_iff_eq.mpr c41
                  have c41b1 : (t118 != 0) = false := bne_eq_false_iff_eq.mpr c41
                  clear c41
                  exact absurd ((Option.some.inj H).trans hrT_.out) (by simp)
                · rw [if_neg c41] at H
                  have c41b0 : (t118 == 0) = false := beq_eq_false_iff_ne.mpr c41
                  have c41b1 : (t118 != 0) = true := bne_iff_ne.mpr c41
                  replace H := Option.bind_eq_some_iff.mp H
                  obtain ⟨t122d, A420, H⟩ := H
                  have E_ := Option.some.inj (A25.out.symm.trans A420)
                  (try simp only [Prod.mk.injEq] at E_)
                  obtain rfl := E_
                  replace H : ((net_Check.f 2 2 1 y119).bind fun t122 => (some (t122 == 7))) = some r := H
                  have A42 := Aside0.mk A420
                  clear A420
                  replace H := Option.bind_eq_some_iff.mp H
                  obtain ⟨t122d, A430, H⟩ := H
                  have E_ := Option.some.inj (A25.out.symm.trans A430)
                  (try simp only [Prod.mk.injEq] at E_)
                  obtain rfl := E_
                  replace H : (some (t122 == 7)) = some r := H
                  have A43 := Aside0.mk A430
                  clear A430
                  obtain rfl := Option.some.inj H
                  have hcz44_0 : wr.cell? ⟨gb110, 0, none⟩ = some (.int .i64 2) := (blk_cell BK110.out 0).trans rfl
                  have hcz44_1 : wr.cell? ⟨gb110, 1, none⟩ = some (.int .i64 2) := (blk_cell BK110.out 1).trans rfl
                  have hcz44_2 : wr.cell? ⟨gb110, 2, none⟩ = some (.int .i64 1) := (blk_cell BK110.out 2).trans rfl
                  have hcz44_3 : wr.cell? ⟨gb110, 3, none⟩ = some (u111003) := (blk_cell BK110.out 3).trans rfl
                  have hfz44_0 := blk_frozen BK110.out 0
                  have hfz44_1 := blk_frozen BK110.out 1
                  have hfz44_2 := blk_frozen BK110.out 2
                  have hfz44_3 := blk_frozen BK110.out 3
                  obtain ⟨Ao45, co45, eo45⟩ := Kd.R_slice HO_111003.out
                  subst eo45
                  try go_wp2_with (first | ((with_reducible refine gate_callee (f := 16) rfl ?_); refine goesL_ (some 48) rfl rfl Try.func16 (by kernel_rfl) rfl #[.agg #[.int .i64 2, .int .i64 2, .int .i64 1, .slice Ao45 x111003_1.length co45]] rfl (by (try simp only [List.map_toArray, List.map_cons, List.map_nil]); first | done | rfl | (simp only [List.length_drop, List.length_take]; rfl)) ?_; (with_reducible refine (net_Check.calls 2 2 1 _ _ x111003_1 t117 _ ?side1 ?side2 A21.out).mono ?_); (case side1 => repeat (first | exact (Kd.R_reads' HO_111003.out).2.2 | (with_reducible refine Kd.C_alloc ?_ _) | (with_reducible refine Kd.C_drewN ?_ _) | (with_reducible refine Kd.C_drew ?_))); (case side2 => exact (Kd.R_reads' HO_111003.out).2.1); rintro e w46 ⟨rfl, hb⟩; refine ⟨_, rfl, ?_⟩; have n0_ := Aside0.mk (Kd.R_below (by (with_reducible repeat (first | apply Kd.R_alloc | apply Kd.R_drewN | apply Kd.R_drew)); exact HO_111003.out) hb); have n1_ := Aside0.mk (blk_below (g := gb110) (o := .cells #[.int .i64 2, .int .i64 2, .int .i64 1, .slice Ao45 x111003_1.length co45] 26 (0, 0)) (by (with_reducible repeat (first | refine blk_drewN ?_ _ | refine blk_drew ?_ | refine blk_alloc ?_ _)); exact BK110.out) hb); have n2_ := Aside0.mk (below_step (by repeat (first | (with_reducible first | exact HB.out | apply below_alloc | apply pw_below_drewN | apply below_drew1 | refine below_set ?_ GE110.out) | exact HB.out)) hb); clear HO_111003; clear BK110; clear HB; have HO_111003 := n0_; have BK110 := n1_; have HB := n2_; clear n0_ n1_ n2_; (try clear hb); (try clear hb2); (try clear hk); (try clear hi)))
                  have n0_ := Aside0.mk (Kd.R_drew HO_111003.out)
                  have n1_ := Aside0.mk (blk_drew BK110.out)
                  have n2_ := Aside0.mk (below_drew1 HB.out)
                  clear HO_111003
                  clear BK110
                  clear HB
                  have HO_111003 := n0_
                  have BK110 := n1_
                  have HB := n2_
                  clear n0_ n1_ n2_
                  refine start_ (n := 9) (S := fun w' => w'.cell? ⟨gb110, 0, none⟩ = some (.int .i64 2) ∧ w'.cell? ⟨gb110, 1, none⟩ = some (.int .i64 2) ∧ w'.cell? ⟨gb110, 2, none⟩ = some (.int .i64 1) ∧ w'.cell? ⟨gb110, 3, none⟩ = some (.slice Ao45 x111003_1.length co45)) (ds := [8]) #[false, false, false, false, false, false, false, false, false] (by kernel_rfl) rfl rfl ⟨(blk_cell BK110.out 0).trans rfl, (blk_cell BK110.out 1).trans rfl, (blk_cell BK110.out 2).trans rfl, (blk_cell BK110.out 3).trans rfl⟩ (fun hHeld => ?_); refine with_tabW racewaylaw3_NetSums.tab17 racewaylaw3_NetSums.bits17 (fun HT_ HW_ => ?_)
                  generalize w46.drew = w47 at HO_111003 BK110 HB hHeld ⊢
                  refine pure_ (i := 0) (N := some 50) (v := ?_) (a' := ?_) #[true, false, false, false, false, false, false, false, false] rfl rfl (any_of HT_.out (by kernel_rfl)) (fun _ _ _ h => h) (Or.inl ⟨by rfl, ?_⟩) ?_ ?_
                  rotate_left
                  · intro w'
                    go_simp
                    with_reducible rfl
                  rotate_left
                  · simp only [Act.put, List.setIfInBounds_toArray, List.set_cons_zero, List.set_cons_succ, i64_w, i32_w]
                    rfl
                  refine pure_ (i := 2) (N := some 52) (v := ?_) (a' := ?_) #[true, false, true, false, false, false, false, false, false] rfl rfl (any_of HT_.out (by kernel_rfl)) (fun _ _ _ h => h) (Or.inl ⟨by rfl, ?_⟩) ?_ ?_
                  rotate_left
                  · intro w'
                    go_simp
                    with_reducible rfl
                  rotate_left
                  · simp only [Act.put, List.setIfInBounds_toArray, List.set_cons_zero, List.set_cons_succ, i64_w, i32_w]
                    rfl
                  refine take_ (i := 1) (N := some 51) (v := ?_) (a' := ?_) #[true, true, true, false, false, false, false, false, false] rfl rfl (take_ofW HT_.out HW_.out (by kernel_rfl)) (fun _ _ _ h => h) (Or.inl ⟨by rfl, ?_⟩) hHeld ?_ ?_
                  rotate_left
                  · rintro w' ⟨s0, s1, s2, s3⟩
                    go_simp
                    with_reducible rfl
                  rotate_left
                  · simp only [Act.put, List.setIfInBounds_toArray, List.set_cons_zero, List.set_cons_succ, i64_w, i32_w]
                    rfl
                  refine one_ (i := 3) (N := some 53) #[true, true, true, true, false, false, false, false, false] rfl rfl (one_of HT_.out (by kernel_rfl)) (by decide) (fun K hK => ?_)
                  refine goes_ Try.func15 (by kernel_rfl) rfl #[.int .i64 a1, .int .i64 3] (by rfl) rfl rfl (by (try simp only [List.map_toArray, List.map_cons, List.map_nil]); first | done | rfl | (simp only [List.length_drop, List.length_take]; rfl)) ?_
                  with_reducible refine (racewaylaw3_pick.calls a1 3 t118 _ A23.out).mono ?_
                  rintro e w' ⟨rfl, ⟨nd, rfl⟩⟩
                  refine ⟨_, rfl, ?_⟩
                  refine hK.out _ _ ⟨(blk_cell BK110.out 0).trans rfl, (blk_cell BK110.out 1).trans rfl, (blk_cell BK110.out 2).trans rfl, (blk_cell BK110.out 3).trans rfl⟩ (fun hHeld => ?_)
                  clear hK K
                  refine norm_ (a' := ?_) ?_ ?_
                  rotate_left
                  · show Act.put _ (some 53) _ = _
                    simp only [Act.put, List.setIfInBounds_toArray, List.set_cons_zero, List.set_cons_succ, i64_w, i32_w]
                    rfl
                  refine pure_ (i := 4) (N := some 54) (v := ?_) (a' := ?_) #[true, true, true, true, true, false, false, false, false] rfl rfl (any_of HT_.out (by kernel_rfl)) (fun _ _ _ h => h) (Or.inl ⟨by rfl, ?_⟩) ?_ ?_
                  rotate_left
                  · intro w'
                    go_simp
                    with_reducible rfl
                  rotate_left
                  · simp only [Act.put, List.setIfInBounds_toArray, List.set_cons_zero, List.set_cons_succ, i64_w, i32_w]
                    rfl
                  refine one_ (i := 5) (N := some 55) #[true, true, true, true, true, true, false, false, false] rfl rfl (one_of HT_.out (by kernel_rfl)) (by decide) (fun K hK => ?_)
                  refine value_ (w1 := ?_) (v := ?_) (by rfl) rfl ?_ ?_
                  rotate_left 2
                  · go_simp
                    constructor
                    · rfl
                    · rfl
                  refine hK.out _ _ ⟨(blk_cell (blk_alloc BK110.out _) 0).trans rfl, (blk_cell (blk_alloc BK110.out _) 1).trans rfl, (blk_cell (blk_alloc BK110.out _) 2).trans rfl, (blk_cell (blk_alloc BK110.out _) 3).trans rfl⟩ (fun hHeld => ?_)
                  clear hK K
                  refine norm_ (a' := ?_) ?_ ?_
                  rotate_left
                  · show Act.put _ (some 55) _ = _
                    simp only [Act.put, List.setIfInBounds_toArray, List.set_cons_zero, List.set_cons_succ, i64_w, i32_w]
                    rfl
                  refine one_ (i := 6) (N := some 56) #[true, true, true, true, true, true, true, false, false] rfl rfl (one_of HT_.out (by kernel_rfl)) (by decide) (fun K hK => ?_)
                  refine Kd.R_append_step k28 (w0 := w) w.heap.size (by rfl) (.tmp 51) (.tmp 55) 24 28 (.agg #[(.int .i64 0), (.int .i64 0), (.int .i64 0)]) 24 rfl Try.underlying24 info28 rfl (by decide) (by omega) (.slice Ao45 x111003_1.length co45) x111003_1 (⟨1, 1, t118⟩ : S28) [.int .i64 1, .int .i64 1, .int .i64 t118] (fun _ => True) (fun _ => False) rfl rfl ?aP (fun _ hk => hk.elim) ?aF ?aO ?aB ?aS ?aL ?_
                  (case aP => exact k28_mkM _ _ _ (⟨1, 1, t118⟩ : S28))
                  (case aB => exact (by repeat (first | (with_reducible first | exact HB.out | apply below_alloc | apply pw_below_drewN | apply below_drew1 | refine below_set ?_ GE110.out) | exact HB.out)))
                  (case aF => exact (fun _ _ => trivial))
                  (case aO => exact (by (with_reducible repeat (first | apply Kd.R_alloc | apply Kd.R_drewN | apply Kd.R_drew)); exact HO_111003.out))
                  (case aS => exact (below_size (by repeat (first | (with_reducible first | exact HB.out | apply below_alloc | apply pw_below_drewN | apply below_drew1 | refine below_set ?_ GE110.out) | exact HB.out))))
                  (case aL => have := LMc24.out; omega)
                  intro v120 w48 ho hb hg hat
                  rw [← Ny119.out] at ho
                  have n0_ := Aside0.mk (blk_grown (g := gb110) (o := .cells #[.int .i64 2, .int .i64 2, .int .i64 1, .slice Ao45 x111003_1.length co45] 26 (0, 0)) (by (with_reducible repeat (first | refine blk_drewN ?_ _ | refine blk_drew ?_ | refine blk_alloc ?_ _)); exact BK110.out) hg (Kd.R_ne HO_111003.out BK110.out (by decide)))
                  have n1_ := Aside0.mk (hb)
                  have n2_ := Aside0.mk (ho)
                  clear BK110
                  clear HB
                  clear HO_111003
                  have BK110 := n0_
                  have HB := n1_
                  have HO121 := n2_
                  clear n0_ n1_ n2_
                  clear ho hb hg hat
                  obtain ⟨Ao49, co49, eo49⟩ := Kd.R_slice HO121.out
                  (first | subst eo49 | (injection eo49 with f1_ f2_ f3_; have f4_ := f1_.symm; have f5_ := f3_.symm; clear f1_ f2_ f3_; subst f4_; subst f5_))
                  refine hK.out _ _ ⟨(blk_cell BK110.out 0).trans rfl, (blk_cell BK110.out 1).trans rfl, (blk_cell BK110.out 2).trans rfl, (blk_cell BK110.out 3).trans rfl⟩ (fun hHeld => ?_)
                  clear hK K
                  refine norm_ (a' := ?_) ?_ ?_
                  rotate_left
                  · show Act.put _ (some 56) _ = _
                    simp only [Act.put, List.setIfInBounds_toArray, List.set_cons_zero, List.set_cons_succ, i64_w, i32_w]
                    rfl
                  refine pure_ (i := 7) (N := some 57) (v := ?_) (a' := ?_) #[true, true, true, true, true, true, true, true, false] rfl rfl (any_of HT_.out (by kernel_rfl)) (fun _ _ _ h => h) (Or.inl ⟨by rfl, ?_⟩) ?_ ?_
                  rotate_left
                  · intro w'
                    go_simp
                    with_reducible rfl
                  rotate_left
                  · simp only [Act.put, List.setIfInBounds_toArray, List.set_cons_zero, List.set_cons_succ, i64_w, i32_w]
                    rfl
                  refine last_ (i := 8) (N := none) #[true, true, true, true, true, true, true, true, true] rfl rfl (one_of HT_.out (by kernel_rfl)) (by decide) (fun K hK => ?_)
                  have hs50 : w48.cell? ⟨gb110, 3, none⟩ = some (.slice Ao45 x111003_1.length co45) := (blk_cell BK110.out 3).trans rfl
                  have hfs50 := blk_frozen BK110.out 3
                  refine skip_ (w1 := ?_) (by rfl) rfl ?_ ?_
                  rotate_left
                  · go_simp
                    rfl
                  refine hK.out _ _ ?_
                  clear hK K
                  refine done_ (done_of HT_.out (by kernel_rfl)) ?_
                  have hcz51_0 : w48.cell? ⟨gb110, 0, none⟩ = some (.int .i64 2) := (blk_cell BK110.out 0).trans rfl
                  have hcz51_1 : w48.cell? ⟨gb110, 1, none⟩ = some (.int .i64 2) := (blk_cell BK110.out 1).trans rfl
                  have hcz51_2 : w48.cell? ⟨gb110, 2, none⟩ = some (.int .i64 1) := (blk_cell BK110.out 2).trans rfl
                  have hcz51_3 : w48.cell? ⟨gb110, 3, none⟩ = some (.slice Ao45 x111003_1.length co45) := (blk_cell BK110.out 3).trans rfl
                  have hfz51_0 := blk_frozen BK110.out 0
                  have hfz51_1 := blk_frozen BK110.out 1
                  have hfz51_2 := blk_frozen BK110.out 2
                  have hfz51_3 := blk_frozen BK110.out 3
                  try go_wp2_with (first | ((with_reducible refine gate_callee (f := 16) rfl ?_); refine goesL_ (some 59) rfl rfl Try.func16 (by kernel_rfl) rfl #[.agg #[.int .i64 2, .int .i64 2, .int .i64 1, .slice Ao49 y119.length co49]] rfl (by (try simp only [List.map_toArray, List.map_cons, List.map_nil]); first | done | rfl | (simp only [List.length_drop, List.length_take]; rfl)) ?_; (with_reducible refine (net_Check.calls 2 2 1 _ _ y119 t122 _ ?side1 ?side2 A25.out).mono ?_); (case side1 => refine (Kd.R_reads' (e := 28) (base := w.heap.size) (ok := fun k_ => True) (n := y119.length) (c := co49) ?_).2.2; exact (by (with_reducible repeat (first | apply Kd.R_alloc | apply Kd.R_drewN | apply Kd.R_drew)); exact (Kd.R_mono (Kd.R_far (p := ⟨gb110, 3, none⟩) (Kd.R_types HO121.out BK110.out (by decide)) (fun _ hk => hk.2) (.slice Ao49 y119.length co49)) (fun _ h_ => h_.1)))); (case side2 => exact (Kd.R_reads' HO121.out).2.1); rintro e w52 ⟨rfl, hb⟩; refine ⟨_, rfl, ?_⟩; have n0_ := Aside0.mk (Kd.R_below (by (with_reducible repeat (first | apply Kd.R_alloc | apply Kd.R_drewN | apply Kd.R_drew)); exact (Kd.R_mono (Kd.R_far (p := ⟨gb110, 3, none⟩) (Kd.R_types HO121.out BK110.out (by decide)) (fun _ hk => hk.2) (.slice Ao49 y119.length co49)) (fun _ h_ => h_.1))) hb); have n1_ := Aside0.mk (blk_below (g := gb110) (o := .cells #[.int .i64 2, .int .i64 2, .int .i64 1, .slice Ao49 y119.length co49] 26 (0, 0)) (by (with_reducible repeat (first | refine blk_drewN ?_ _ | refine blk_drew ?_ | refine blk_alloc ?_ _)); refine blk_put (cs := #[.int .i64 2, .int .i64 2, .int .i64 1, .slice Ao45 x111003_1.length co45]) ?_ 3 _ rfl; (with_reducible repeat (first | refine blk_drewN ?_ _ | refine blk_drew ?_ | refine blk_alloc ?_ _)); exact BK110.out) hb); have n2_ := Aside0.mk (below_step (by repeat (first | (with_reducible first | exact HB.out | apply below_alloc | apply pw_below_drewN | apply below_drew1 | refine below_set ?_ GE110.out) | exact HB.out)) hb); clear HO121; clear BK110; clear HB; have HO121 := n0_; have BK110 := n1_; have HB := n2_; clear n0_ n1_ n2_; (try clear hb); (try clear hb2); (try clear hk); (try clear hi)) | ((with_reducible refine gate_callee (f := 15) rfl ?_); refine goesL_ (some 62) rfl rfl Try.func15 (by kernel_rfl) rfl #[.int .i64 a1, .int .i64 3] rfl (by (try simp only [List.map_toArray, List.map_cons, List.map_nil]); first | done | rfl | (simp only [List.length_drop, List.length_take]; rfl)) ?_; (with_reducible refine (racewaylaw3_pick.calls a1 3 t118 _ A26.out).mono ?_); rintro e w' ⟨rfl, ⟨nd, rfl⟩⟩; refine ⟨_, rfl, ?_⟩; have hcz53_0 : w52.cell? ⟨gb110, 0, none⟩ = some (.int .i64 2) := (blk_cell BK110.out 0).trans rfl; have hcz53_1 : w52.cell? ⟨gb110, 1, none⟩ = some (.int .i64 2) := (blk_cell BK110.out 1).trans rfl; have hcz53_2 : w52.cell? ⟨gb110, 2, none⟩ = some (.int .i64 1) := (blk_cell BK110.out 2).trans rfl; have hcz53_3 : w52.cell? ⟨gb110, 3, none⟩ = some (.slice Ao49 y119.length co49) := (blk_cell BK110.out 3).trans rfl; have hfz53_0 := blk_frozen BK110.out 0; have hfz53_1 := blk_frozen BK110.out 1; have hfz53_2 := blk_frozen BK110.out 2; have hfz53_3 := blk_frozen BK110.out 3) | (go_at_call 16; (with_reducible refine (net_Check.calls 2 2 1 _ _ y119 t122 _ ?side1 ?side2 A42.out).mono ?_); (case side1 => repeat (first | exact (Kd.R_reads' HO121.out).2.2 | (with_reducible refine Kd.C_alloc ?_ _) | (with_reducible refine Kd.C_drewN ?_ _) | (with_reducible refine Kd.C_drew ?_))); (case side2 => exact (Kd.R_reads' HO121.out).2.1); rintro e w54 ⟨rfl, hb⟩; have n0_ := Aside0.mk (Kd.R_below (by (with_reducible repeat (first | apply Kd.R_alloc | apply Kd.R_drewN | apply Kd.R_drew)); exact HO121.out) hb); have n1_ := Aside0.mk (blk_below (g := gb110) (o := .cells #[.int .i64 2, .int .i64 2, .int .i64 1, .slice Ao49 y119.length co49] 26 (0, 0)) (by (with_reducible repeat (first | refine blk_drewN ?_ _ | refine blk_drew ?_ | refine blk_alloc ?_ _)); exact BK110.out) hb); have n2_ := Aside0.mk (below_step (by repeat (first | (with_reducible first | exact HB.out | apply below_alloc | apply pw_below_drewN | apply below_drew1 | refine below_set ?_ GE110.out) | exact HB.out)) hb); clear HO121; clear BK110; clear HB; have HO121 := n0_; have BK110 := n1_; have HB := n2_; clear n0_ n1_ n2_; (try clear hb); (try clear hb2); (try clear hk); (try clear hi); have hcz55_0 : w54.cell? ⟨gb110, 0, none⟩ = some (.int .i64 2) := (blk_cell BK110.out 0).trans rfl; have hcz55_1 : w54.cell? ⟨gb110, 1, none⟩ = some (.int .i64 2) := (blk_cell BK110.out 1).trans rfl; have hcz55_2 : w54.cell? ⟨gb110, 2, none⟩ = some (.int .i64 1) := (blk_cell BK110.out 2).trans rfl; have hcz55_3 : w54.cell? ⟨gb110, 3, none⟩ = some (.slice Ao49 y119.length co49) := (blk_cell BK110.out 3).trans rfl; have hfz55_0 := blk_frozen BK110.out 0; have hfz55_1 := blk_frozen BK110.out 1; have hfz55_2 := blk_frozen BK110.out 2; have hfz55_3 := blk_frozen BK110.out 3) | (go_at_call 16; (with_reducible refine (net_Check.calls 2 2 1 _ _ y119 t122 _ ?side1 ?side2 A43.out).mono ?_); (case side1 => repeat (first | exact (Kd.R_reads' HO121.out).2.2 | (with_reducible refine Kd.C_alloc ?_ _) | (with_reducible refine Kd.C_drewN ?_ _) | (with_reducible refine Kd.C_drew ?_))); (case side2 => exact (Kd.R_reads' HO121.out).2.1); rintro e w56 ⟨rfl, hb⟩; have n0_ := Aside0.mk (Kd.R_below (by (with_reducible repeat (first | apply Kd.R_alloc | apply Kd.R_drewN | apply Kd.R_drew)); exact HO121.out) hb); have n1_ := Aside0.mk (blk_below (g := gb110) (o := .cells #[.int .i64 2, .int .i64 2, .int .i64 1, .slice Ao49 y119.length co49] 26 (0, 0)) (by (with_reducible repeat (first | refine blk_drewN ?_ _ | refine blk_drew ?_ | refine blk_alloc ?_ _)); exact BK110.out) hb); have n2_ := Aside0.mk (below_step (by repeat (first | (with_reducible first | exact HB.out | apply below_alloc | apply pw_below_drewN | apply below_drew1 | refine below_set ?_ GE110.out) | exact HB.out)) hb); clear HO121; clear BK110; clear HB; have HO121 := n0_; have BK110 := n1_; have HB := n2_; clear n0_ n1_ n2_; (try clear hb); (try clear hb2); (try clear hk); (try clear hi)))
                  go_ret
                  exact ⟨by first | rfl | (simp [errW_none, errW_some] <;> rfl) | (simp [*, errW_none, errW_some] <;> rfl), by repeat (first | (with_reducible first | exact HB.out | apply below_alloc | apply pw_below_drewN | apply below_drew1 | refine below_set ?_ GE110.out) | exact HB.out)⟩
            · rw [if_neg c24] at H
              exact absurd H (by simp)
          · rw [if_neg c22] at H
            have c22b0 : (t117 == 0) = false := beq_eq_false_iff_ne.mpr c22
            have c22b1 : (t117 != 0) = true := bne_iff_ne.mpr c22
            exact absurd ((Option.some.inj H).trans hrT_.out) (by simp)
  · replace c4 := Bool.eq_false_iff.mpr c4
    subst c4
    have H1 : (some false) = some r := by rw [if_neg (show ¬ (false = true) by decide)] at H; exact H
    clear H
    have H := H1
    clear H1
    exact absurd ((Option.some.inj H).trans hrT_.out) (by simp)

/-- THE ONE PURE STATEMENT of racewaylaw3_NetSums: yours. -/
def racewaylaw3_NetSums.Pure : Prop := ∀ (a0 : Int) (a1 : Int), (Lit.int .i64 a0).wf = true → (Lit.int .i64 a1).wf = true → ∃ k, racewaylaw3_NetSums.f k a0 a1 = some true
theorem racewaylaw3_NetSums.walk (P : racewaylaw3_NetSums.Pure) (a0 : Int) (a1 : Int) (w : World) (w0 : (Lit.int .i64 a0).wf = true) (w1 : (Lit.int .i64 a1).wf = true) :
    Calls Try.prog 3 #[.int .i64 a0, .int .i64 a1] w fun e w' => e = .returned (.bool true) ∧ Below w.heap.size w w' := by
  obtain ⟨k, h⟩ := P a0 a1 w0 w1
  refine (racewaylaw3_NetSums.calls k a0 a1 true w h ⟨rfl⟩).mono ?_
  rintro e w' ⟨rfl, hd⟩
  exact ⟨rfl, hd⟩

end Go.Proofs.Ytjbeofcgnnlllaa.PNetSums
