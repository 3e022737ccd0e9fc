/- For the law NetParts, for every input: printed by a program (wip/myprint), contracts by hand where it says MANUAL. -/
-- slim
import Derived.Test.YtlkpapkcgafgeaaPNetPartsx0
import Derived.Test.YtlkpapkcgafgeaaPNetPartsx3
import Derived.Test.YtlkpapkcgafgeaaPNetPartsx6
import Derived.Test.YtlkpapkcgafgeaaPNetPartsx7
import Derived.Test.YtlkpapkcgafgeaaPNetPartsx8
import Derived.Test.YtlkpapkcgafgeaaPNetPartsx9
import Derived.Test.YtlkpapkcgafgeaaPNetPartsx13
import Derived.Test.YtlkpapkcgafgeaaPNetPartsx14
import Derived.Test.YtlkpapkcgafgeaaPNetPartsx16
import Derived.Test.YtlkpapkcgafgeaaPNetPartsx17
namespace Go.Proofs.Ytlkpapkcgafgeaa.PNetParts
open Go.RowKit Go.Proofs.YtlkpapkcgafgeaaW.PrintWords Go.Proofs.YtlkpapkcgafgeaaW.PrintLast Go.Proofs.YtlkpapkcgafgeaaW.PrintMore
open List (setIfInBounds_toArray set_cons_zero set_cons_succ)
attribute [local go_sem] max2_int min2_int max_two min_two max_three min_three max_four min_four
set_option linter.unusedVariables false
set_option linter.unusedSimpArgs false
/-! ### racewaylaw3_NetParts: function 3 -/
set_option maxHeartbeats 8000000 in
set_option maxRecDepth 100000 in
theorem racewaylaw3_NetParts.calls (k : Nat) (a0 : Int) (a1 : Int) (A2 : Option Addr) (c2 : Nat) (l2 : List (S50)) (a3 : Int) (r : Bool) (w : World) (hr2 : Kd.C k50 w A2 l2.length l2) (hc2 : l2.length ≤ c2) (h : racewaylaw3_NetParts.f k a0 a1 l2 a3 = some r) (hrT_ : Aside0 (r = true)) :
  Calls Try.prog 3 #[.int .i64 a0, .int .i64 a1, .slice A2 l2.length c2, .int .i64 a3] w fun e w' => e = .returned (.bool r) ∧ Below w.heap.size w w' := by
 have hu26 := Try.underlying26
 have hu34 := Try.underlying34
 have HR2 := Aside0.mk hr2
 have HC2 := Aside0.mk hc2
 clear hr2 hc2
 have HB := Aside0.mk (Below.refl w.heap.size w)
 have H : ((racewaylaw3_shown.f).bind fun t140 => (if t140 = true then ((racewaylaw3_made.f k a0 a1 l2).bind fun bt141 => ((net_Check.f bt141.1 bt141.2.1 bt141.2.2.1 bt141.2.2.2).bind fun t148 => (if t148 = 0 then ((net_Same.f bt141.1 bt141.2.1 bt141.2.2.1 bt141.2.2.2 bt141.1 bt141.2.1 bt141.2.2.1 bt141.2.2.2).bind fun t149 => (racewaylaw3_NetParts.j0 k l2 a3 (!t149) bt141.1 bt141.2.1 bt141.2.2.1 bt141.2.2.2)) else (racewaylaw3_NetParts.j0 k l2 a3 true bt141.1 bt141.2.1 bt141.2.2.1 bt141.2.2.2)))) else (some false))) = some r := h
 clear h
 replace H := Option.bind_eq_some_iff.mp H
 obtain ⟨t140, A50, H⟩ := H
 replace H : (if t140 = true then ((racewaylaw3_made.f k a0 a1 l2).bind fun bt141 => ((net_Check.f bt141.1 bt141.2.1 bt141.2.2.1 bt141.2.2.2).bind fun t148 => (if t148 = 0 then ((net_Same.f bt141.1 bt141.2.1 bt141.2.2.1 bt141.2.2.2 bt141.1 bt141.2.1 bt141.2.2.1 bt141.2.2.2).bind fun t149 => (racewaylaw3_NetParts.j0 k l2 a3 (!t149) bt141.1 bt141.2.1 bt141.2.2.1 bt141.2.2.2)) else (racewaylaw3_NetParts.j0 k l2 a3 true bt141.1 bt141.2.1 bt141.2.2.1 bt141.2.2.2)))) else (some false)) = some r := H
 have A5 := Aside0.mk A50
 clear A50
 by_cases c6 : t140 = true
 ·subst c6
  have H1 : ((racewaylaw3_made.f k a0 a1 l2).bind fun bt141 => ((net_Check.f bt141.1 bt141.2.1 bt141.2.2.1 bt141.2.2.2).bind fun t148 => (if t148 = 0 then ((net_Same.f bt141.1 bt141.2.1 bt141.2.2.1 bt141.2.2.2 bt141.1 bt141.2.1 bt141.2.2.1 bt141.2.2.2).bind fun t149 => (racewaylaw3_NetParts.j0 k l2 a3 (!t149) bt141.1 bt141.2.1 bt141.2.2.1 bt141.2.2.2)) else (racewaylaw3_NetParts.j0 k l2 a3 true bt141.1 bt141.2.1 bt141.2.2.1 bt141.2.2.2)))) = some r := by rw [if_pos rfl] at H; exact H
  clear H
  have H := H1
  clear H1
  replace H := Option.bind_eq_some_iff.mp H
  obtain ⟨⟨t141, t142, t143, t144⟩, A70, H⟩ := H
  replace H : ((net_Check.f t141 t142 t143 t144).bind fun t148 => (if t148 = 0 then ((net_Same.f t141 t142 t143 t144 t141 t142 t143 t144).bind fun t149 => (racewaylaw3_NetParts.j0 k l2 a3 (!t149) t141 t142 t143 t144)) else (racewaylaw3_NetParts.j0 k l2 a3 true t141 t142 t143 t144))) = some r := H
  have A7 := Aside0.mk A70
  clear A70
  have HC8 := Aside0.mk H
  clear H
  go_enter Try.func3, Try.ntmps3
  go_upto_region 5 with (first | ((with_reducible refine gate_callee (f := 5) rfl ?_); refine goesL_ (some 19) rfl rfl Try.func5 (by kernel_rfl) rfl #[] rfl (by (try simp only [List.map_toArray, List.map_cons, List.map_nil]); first | done | rfl | (simp only [List.length_drop, List.length_take]; rfl)) ?_; (with_reducible refine (racewaylaw3_shown.calls  true _ A5.out).mono ?_); rintro e w9 ⟨rfl, hb⟩; refine ⟨_, rfl, ?_⟩; have n0_ := Aside0.mk (below_step (by repeat (first | (with_reducible first | exact HB.out | apply below_alloc | apply pw_below_drewN | apply below_drew1) | exact HB.out)) hb); clear HB; have HB := n0_; clear n0_; (try clear hb); (try clear hb2); (try clear hk); (try clear hi)) | ((with_reducible refine gate_callee (f := 6) rfl ?_); refine goesL_ (some 25) rfl rfl Try.func6 (by kernel_rfl) rfl #[.int .i64 a0, .int .i64 a1, .slice A2 l2.length c2] rfl (by (try simp only [List.map_toArray, List.map_cons, List.map_nil]); first | done | rfl | (simp only [List.length_drop, List.length_take]; rfl)) ?_; (with_reducible refine (racewaylaw3_made.calls k a0 a1 _ _ l2 t141 t142 t143 t144 _ ?side1 ?side2 A7.out).mono ?_); (case side1 => repeat (first | exact (Kd.C_below HR2.out HB.out) | (with_reducible refine Kd.C_alloc ?_ _) | (with_reducible refine Kd.C_drewN ?_ _) | (with_reducible refine Kd.C_drew ?_))); (case side2 => exact HC2.out); rintro e w10 ⟨v145, rfl, ho0, hb⟩; refine ⟨_, rfl, ?_⟩; have n0_ := Aside0.mk (Kd.R_lower ho0 (below_size (by repeat (first | (with_reducible first | exact HB.out | apply below_alloc | apply pw_below_drewN | apply below_drew1) | exact HB.out)))); have n1_ := Aside0.mk (below_step (by repeat (first | (with_reducible first | exact HB.out | apply below_alloc | apply pw_below_drewN | apply below_drew1) | exact HB.out)) hb); clear HB; have HO146 := n0_; have HB := n1_; clear n0_ n1_; (try clear hb); (try clear hb2); (try clear hk); (try clear hi); (try clear ho0)) | ((with_reducible refine gate_dst (N := 10) rfl ?_); (try (refine gate_guard (by rfl) ?_; dsimp only)); refine box_event ?hg (N := 10) ?hd (cs := #[.int .i64 0, .int .i64 0, .int .i64 0, .slice none 0 0]) (t := 26) ?hr ?_; (case hd => rfl); (case hg => rfl); (case hr => first | (go_simp; done) | (go_simp; rfl)); intro gb147 hg w11 hbox hb; have n0_ := Aside0.mk (Kd.R_below (by (with_reducible repeat first | apply Kd.R_alloc | apply Kd.R_drewN | apply Kd.R_drew); exact HO146.out) hb); have n1_ := Aside0.mk (below_step (by repeat (first | (with_reducible first | exact HB.out | apply below_alloc | apply pw_below_drewN | apply below_drew1) | exact HB.out)) hb); have n2_ := Aside0.mk (hbox); have n3_ := Aside0.mk ((by rw [hg]; exact (below_size (by repeat (first | (with_reducible first | exact HB.out | apply below_alloc | apply pw_below_drewN | apply below_drew1) | exact HB.out))) : w.heap.size ≤ gb147)); have n4_ := Aside0.mk ((by rw [hg]; exact (below_size (by repeat (first | (with_reducible first | exact HB.out | apply below_alloc | apply pw_below_drewN | apply below_drew1) | exact HB.out))) : w.heap.size ≤ gb147)); clear HO146; clear HB; have HO146 := n0_; have HB := n1_; have BK147 := n2_; have GW147 := n3_; have GE147 := n4_; clear n0_ n1_ n2_ n3_ n4_; clear hb hbox hg; have hcz12_0 : w11.cell? ⟨gb147, 0, none⟩ = some (.int .i64 0) := (blk_cell BK147.out 0).trans rfl; have hcz12_1 : w11.cell? ⟨gb147, 1, none⟩ = some (.int .i64 0) := (blk_cell BK147.out 1).trans rfl; have hcz12_2 : w11.cell? ⟨gb147, 2, none⟩ = some (.int .i64 0) := (blk_cell BK147.out 2).trans rfl; have hcz12_3 : w11.cell? ⟨gb147, 3, none⟩ = some (.slice none 0 0) := (blk_cell BK147.out 3).trans rfl; have hfz12_0 := blk_frozen BK147.out 0; have hfz12_1 := blk_frozen BK147.out 1; have hfz12_2 := blk_frozen BK147.out 2; have hfz12_3 := blk_frozen BK147.out 3; obtain ⟨Ao13, co13, eo13⟩ := Kd.R_slice HO146.out; subst eo13))
  (try simp only [Act.put, setIfInBounds_toArray, set_cons_zero, set_cons_succ])
  go_cut [34] (fun v34 wc => ∃ (kq : Nat) (x34_7 : Bool), v34 = .bool x34_7 ∧ Aside0 (racewaylaw3_NetParts.j0 kq l2 a3 x34_7 t141 t142 t143 t144 = some r) ∧ Aside0 (kq ≤ k) ∧ Aside0 (Kd.R k34 34 wc w.heap.size (fun _ => True) (.slice Ao13 t144.length co13) t144) ∧ Aside0 (wc.heap[gb147]? = some (.cells #[.int .i64 t141, .int .i64 t142, .int .i64 t143, (.slice Ao13 t144.length co13)] 26 (0, 0))) ∧ Aside0 (Below w.heap.size w wc))
  case first =>
   (have H := HC8.out);(clear HC8);(replace H := Option.bind_eq_some_iff.mp H);(obtain ⟨t148, A140, H⟩ := H);(replace H : (if t148 = 0 then ((net_Same.f t141 t142 t143 t144 t141 t142 t143 t144).bind fun t149 => (racewaylaw3_NetParts.j0 k l2 a3 (!t149) t141 t142 t143 t144)) else (racewaylaw3_NetParts.j0 k l2 a3 true t141 t142 t143 t144)) = some r := H);(have A14 := Aside0.mk A140);(clear A140)
   by_cases c15 : t148 = 0
   ·(rw [if_pos c15] at H);(have c15b0 : (t148 == 0) = true := beq_iff_eq.mpr c15);(have c15b1 : (t148 != 0) = false := bne_eq_false_iff_eq.mpr c15);(clear c15);((first | rw [c15b0] | (simp only [i64_w, i32_w]; rw [c15b0]) | skip));(replace H := Option.bind_eq_some_iff.mp H);(obtain ⟨t149, A160, H⟩ := H);(replace H : (racewaylaw3_NetParts.j0 k l2 a3 (!t149) t141 t142 t143 t144) = some r := H);(have A16 := Aside0.mk A160);(clear A160)
    as_aux_lemma =>
     (have H' := Aside0.mk H);(clear H);(have hcz17_0 : w11.cell? ⟨gb147, 0, none⟩ = some (.int .i64 0) := (blk_cell BK147.out 0).trans rfl);(have hcz17_1 : w11.cell? ⟨gb147, 1, none⟩ = some (.int .i64 0) := (blk_cell BK147.out 1).trans rfl);(have hcz17_2 : w11.cell? ⟨gb147, 2, none⟩ = some (.int .i64 0) := (blk_cell BK147.out 2).trans rfl);(have hcz17_3 : w11.cell? ⟨gb147, 3, none⟩ = some (.slice none 0 0) := (blk_cell BK147.out 3).trans rfl);(have hfz17_0 := blk_frozen BK147.out 0);(have hfz17_1 := blk_frozen BK147.out 1);(have hfz17_2 := blk_frozen BK147.out 2);(have hfz17_3 := blk_frozen BK147.out 3)
     go_wp2_with (first | ((with_reducible refine gate_callee (f := 7) rfl ?_); refine goesL_ (some 27) rfl rfl Try.func7 (by kernel_rfl) rfl #[.agg #[.int .i64 t141, .int .i64 t142, .int .i64 t143, .slice Ao13 t144.length co13]] rfl (by (try simp only [List.map_toArray, List.map_cons, List.map_nil]); first | done | rfl | (simp only [List.length_drop, List.length_take]; rfl)) ?_; (with_reducible refine (net_Check.calls t141 t142 t143 _ _ t144 t148 _ ?side1 ?side2 A14.out).mono ?_); (case side1 => refine (Kd.R_reads' (e := 34) (base := w.heap.size) (ok := fun k_ => True) (n := t144.length) (c := co13) ?_).2.2; exact (by (with_reducible repeat first | apply Kd.R_alloc | apply Kd.R_drewN | apply Kd.R_drew); exact (Kd.R_mono (Kd.R_far (p := ⟨gb147, 3, none⟩) (Kd.R_far (p := ⟨gb147, 2, none⟩) (Kd.R_far (p := ⟨gb147, 1, none⟩) (Kd.R_far (p := ⟨gb147, 0, none⟩) (Kd.R_types HO146.out BK147.out (by decide)) (fun _ hk => hk.2) (.int .i64 t141)) (fun _ hk => hk.2) (.int .i64 t142)) (fun _ hk => hk.2) (.int .i64 t143)) (fun _ hk => hk.2) (.slice Ao13 t144.length co13)) (fun _ h_ => h_.1)))); (case side2 => exact (Kd.R_reads' HO146.out).2.1); rintro e w18 ⟨rfl, hb⟩; refine ⟨_, rfl, ?_⟩; have n0_ := Aside0.mk (Kd.R_below (by (with_reducible repeat first | apply Kd.R_alloc | apply Kd.R_drewN | apply Kd.R_drew); exact (Kd.R_mono (Kd.R_far (p := ⟨gb147, 3, none⟩) (Kd.R_far (p := ⟨gb147, 2, none⟩) (Kd.R_far (p := ⟨gb147, 1, none⟩) (Kd.R_far (p := ⟨gb147, 0, none⟩) (Kd.R_types HO146.out BK147.out (by decide)) (fun _ hk => hk.2) (.int .i64 t141)) (fun _ hk => hk.2) (.int .i64 t142)) (fun _ hk => hk.2) (.int .i64 t143)) (fun _ hk => hk.2) (.slice Ao13 t144.length co13)) (fun _ h_ => h_.1))) hb); have n1_ := Aside0.mk (blk_below (g := gb147) (o := .cells #[.int .i64 t141, .int .i64 t142, .int .i64 t143, .slice Ao13 t144.length co13] 26 (0, 0)) (by (with_reducible repeat first | refine blk_drewN ?_ _ | refine blk_drew ?_ | refine blk_alloc ?_ _); refine blk_put (cs := #[.int .i64 t141, .int .i64 t142, .int .i64 t143, .slice none 0 0]) ?_ 3 _ rfl; (with_reducible repeat first | refine blk_drewN ?_ _ | refine blk_drew ?_ | refine blk_alloc ?_ _); refine blk_put (cs := #[.int .i64 t141, .int .i64 t142, .int .i64 0, .slice none 0 0]) ?_ 2 _ rfl; (with_reducible repeat first | refine blk_drewN ?_ _ | refine blk_drew ?_ | refine blk_alloc ?_ _); refine blk_put (cs := #[.int .i64 t141, .int .i64 0, .int .i64 0, .slice none 0 0]) ?_ 1 _ rfl; (with_reducible repeat first | refine blk_drewN ?_ _ | refine blk_drew ?_ | refine blk_alloc ?_ _); refine blk_put (cs := #[.int .i64 0, .int .i64 0, .int .i64 0, .slice none 0 0]) ?_ 0 _ rfl; (with_reducible repeat first | refine blk_drewN ?_ _ | refine blk_drew ?_ | refine blk_alloc ?_ _); exact BK147.out) hb); have n2_ := Aside0.mk (below_step (by repeat (first | (with_reducible first | exact HB.out | apply below_alloc | apply pw_below_drewN | apply below_drew1 | refine below_set ?_ GE147.out) | exact HB.out)) hb); clear HO146; clear BK147; clear HB; have HO146 := n0_; have BK147 := n1_; have HB := n2_; clear n0_ n1_ n2_; (try clear hb); (try clear hb2); (try clear hk); (try clear hi); have hcz19_0 : w18.cell? ⟨gb147, 0, none⟩ = some (.int .i64 t141) := (blk_cell BK147.out 0).trans rfl; have hcz19_1 : w18.cell? ⟨gb147, 1, none⟩ = some (.int .i64 t142) := (blk_cell BK147.out 1).trans rfl; have hcz19_2 : w18.cell? ⟨gb147, 2, none⟩ = some (.int .i64 t143) := (blk_cell BK147.out 2).trans rfl; have hcz19_3 : w18.cell? ⟨gb147, 3, none⟩ = some (.slice Ao13 t144.length co13) := (blk_cell BK147.out 3).trans rfl; have hfz19_0 := blk_frozen BK147.out 0; have hfz19_1 := blk_frozen BK147.out 1; have hfz19_2 := blk_frozen BK147.out 2; have hfz19_3 := blk_frozen BK147.out 3) | (go_at_call 8; (with_reducible refine (net_Same.calls t141 t142 t143 _ _ t144 t141 t142 t143 _ _ t144 t149 _ ?side1 ?side2 ?side3 ?side4 A16.out).mono ?_); (case side1 => repeat (first | exact (Kd.R_reads' HO146.out).2.2 | (with_reducible refine Kd.C_alloc ?_ _) | (with_reducible refine Kd.C_drewN ?_ _) | (with_reducible refine Kd.C_drew ?_))); (case side2 => exact (Kd.R_reads' HO146.out).2.1); (case side3 => repeat (first | exact (Kd.R_reads' HO146.out).2.2 | (with_reducible refine Kd.C_alloc ?_ _) | (with_reducible refine Kd.C_drewN ?_ _) | (with_reducible refine Kd.C_drew ?_))); (case side4 => exact (Kd.R_reads' HO146.out).2.1); rintro e w20 ⟨rfl, hb⟩; have n0_ := Aside0.mk (Kd.R_below (by (with_reducible repeat first | apply Kd.R_alloc | apply Kd.R_drewN | apply Kd.R_drew); exact HO146.out) hb); have n1_ := Aside0.mk (blk_below (g := gb147) (o := .cells #[.int .i64 t141, .int .i64 t142, .int .i64 t143, .slice Ao13 t144.length co13] 26 (0, 0)) (by (with_reducible repeat first | refine blk_drewN ?_ _ | refine blk_drew ?_ | refine blk_alloc ?_ _); exact BK147.out) hb); have n2_ := Aside0.mk (below_step (by repeat (first | (with_reducible first | exact HB.out | apply below_alloc | apply pw_below_drewN | apply below_drew1 | refine below_set ?_ GE147.out) | exact HB.out)) hb); clear HO146; clear BK147; clear HB; have HO146 := n0_; have BK147 := n1_; have HB := n2_; clear n0_ n1_ n2_; (try clear hb); (try clear hb2); (try clear hk); (try clear hi)))
     go_meet
     case rel => exact ⟨_, (!t149), (by first | rfl | (simp; done) | (simp [*]; done)), H', ⟨by first | omega | exact Nat.le_refl _⟩, ⟨by (with_reducible repeat first | apply Kd.R_alloc | apply Kd.R_drewN | apply Kd.R_drew); exact HO146.out⟩, ⟨by (with_reducible repeat first | refine blk_drewN ?_ _ | refine blk_drew ?_ | refine blk_alloc ?_ _); exact BK147.out⟩, ⟨by repeat (first | (with_reducible first | exact HB.out | apply below_alloc | apply pw_below_drewN | apply below_drew1 | refine below_set ?_ GE147.out) | exact HB.out)⟩⟩
   ·(rw [if_neg c15] at H);(have c15b0 : (t148 == 0) = false := beq_eq_false_iff_ne.mpr c15);(have c15b1 : (t148 != 0) = true := bne_iff_ne.mpr c15);((first | rw [c15b0] | (simp only [i64_w, i32_w]; rw [c15b0]) | skip))
    as_aux_lemma =>
     (have H' := Aside0.mk H);(clear H);(have hcz21_0 : w11.cell? ⟨gb147, 0, none⟩ = some (.int .i64 0) := (blk_cell BK147.out 0).trans rfl);(have hcz21_1 : w11.cell? ⟨gb147, 1, none⟩ = some (.int .i64 0) := (blk_cell BK147.out 1).trans rfl);(have hcz21_2 : w11.cell? ⟨gb147, 2, none⟩ = some (.int .i64 0) := (blk_cell BK147.out 2).trans rfl);(have hcz21_3 : w11.cell? ⟨gb147, 3, none⟩ = some (.slice none 0 0) := (blk_cell BK147.out 3).trans rfl);(have hfz21_0 := blk_frozen BK147.out 0);(have hfz21_1 := blk_frozen BK147.out 1);(have hfz21_2 := blk_frozen BK147.out 2);(have hfz21_3 := blk_frozen BK147.out 3)
     go_wp2_with (first | ((with_reducible refine gate_callee (f := 7) rfl ?_); refine goesL_ (some 27) rfl rfl Try.func7 (by kernel_rfl) rfl #[.agg #[.int .i64 t141, .int .i64 t142, .int .i64 t143, .slice Ao13 t144.length co13]] rfl (by (try simp only [List.map_toArray, List.map_cons, List.map_nil]); first | done | rfl | (simp only [List.length_drop, List.length_take]; rfl)) ?_; (with_reducible refine (net_Check.calls t141 t142 t143 _ _ t144 t148 _ ?side1 ?side2 A14.out).mono ?_); (case side1 => refine (Kd.R_reads' (e := 34) (base := w.heap.size) (ok := fun k_ => True) (n := t144.length) (c := co13) ?_).2.2; exact (by (with_reducible repeat first | apply Kd.R_alloc | apply Kd.R_drewN | apply Kd.R_drew); exact (Kd.R_mono (Kd.R_far (p := ⟨gb147, 3, none⟩) (Kd.R_far (p := ⟨gb147, 2, none⟩) (Kd.R_far (p := ⟨gb147, 1, none⟩) (Kd.R_far (p := ⟨gb147, 0, none⟩) (Kd.R_types HO146.out BK147.out (by decide)) (fun _ hk => hk.2) (.int .i64 t141)) (fun _ hk => hk.2) (.int .i64 t142)) (fun _ hk => hk.2) (.int .i64 t143)) (fun _ hk => hk.2) (.slice Ao13 t144.length co13)) (fun _ h_ => h_.1)))); (case side2 => exact (Kd.R_reads' HO146.out).2.1); rintro e w22 ⟨rfl, hb⟩; refine ⟨_, rfl, ?_⟩; have n0_ := Aside0.mk (Kd.R_below (by (with_reducible repeat first | apply Kd.R_alloc | apply Kd.R_drewN | apply Kd.R_drew); exact (Kd.R_mono (Kd.R_far (p := ⟨gb147, 3, none⟩) (Kd.R_far (p := ⟨gb147, 2, none⟩) (Kd.R_far (p := ⟨gb147, 1, none⟩) (Kd.R_far (p := ⟨gb147, 0, none⟩) (Kd.R_types HO146.out BK147.out (by decide)) (fun _ hk => hk.2) (.int .i64 t141)) (fun _ hk => hk.2) (.int .i64 t142)) (fun _ hk => hk.2) (.int .i64 t143)) (fun _ hk => hk.2) (.slice Ao13 t144.length co13)) (fun _ h_ => h_.1))) hb); have n1_ := Aside0.mk (blk_below (g := gb147) (o := .cells #[.int .i64 t141, .int .i64 t142, .int .i64 t143, .slice Ao13 t144.length co13] 26 (0, 0)) (by (with_reducible repeat first | refine blk_drewN ?_ _ | refine blk_drew ?_ | refine blk_alloc ?_ _); refine blk_put (cs := #[.int .i64 t141, .int .i64 t142, .int .i64 t143, .slice none 0 0]) ?_ 3 _ rfl; (with_reducible repeat first | refine blk_drewN ?_ _ | refine blk_drew ?_ | refine blk_alloc ?_ _); refine blk_put (cs := #[.int .i64 t141, .int .i64 t142, .int .i64 0, .slice none 0 0]) ?_ 2 _ rfl; (with_reducible repeat first | refine blk_drewN ?_ _ | refine blk_drew ?_ | refine blk_alloc ?_ _); refine blk_put (cs := #[.int .i64 t141, .int .i64 0, .int .i64 0, .slice none 0 0]) ?_ 1 _ rfl; (with_reducible repeat first | refine blk_drewN ?_ _ | refine blk_drew ?_ | refine blk_alloc ?_ _); refine blk_put (cs := #[.int .i64 0, .int .i64 0, .int .i64 0, .slice none 0 0]) ?_ 0 _ rfl; (with_reducible repeat first | refine blk_drewN ?_ _ | refine blk_drew ?_ | refine blk_alloc ?_ _); exact BK147.out) hb); have n2_ := Aside0.mk (below_step (by repeat (first | (with_reducible first | exact HB.out | apply below_alloc | apply pw_below_drewN | apply below_drew1 | refine below_set ?_ GE147.out) | exact HB.out)) hb); clear HO146; clear BK147; clear HB; have HO146 := n0_; have BK147 := n1_; have HB := n2_; clear n0_ n1_ n2_; (try clear hb); (try clear hb2); (try clear hk); (try clear hi)))
     go_meet
     case rel => exact ⟨_, (true), (by first | rfl | (simp; done) | (simp [*]; done)), H', ⟨by first | omega | exact Nat.le_refl _⟩, ⟨by (with_reducible repeat first | apply Kd.R_alloc | apply Kd.R_drewN | apply Kd.R_drew); exact HO146.out⟩, ⟨by (with_reducible repeat first | refine blk_drewN ?_ _ | refine blk_drew ?_ | refine blk_alloc ?_ _); exact BK147.out⟩, ⟨by repeat (first | (with_reducible first | exact HB.out | apply below_alloc | apply pw_below_drewN | apply below_drew1 | refine below_set ?_ GE147.out) | exact HB.out)⟩⟩
  case rest =>
   clear HC8
   try clear c1
   try clear c2
   try clear p2
   try clear c3
   try clear c5
   try clear c6
   try clear c7
   try clear c15
   try clear c15b0
   try clear c15b1
   try clear hcz12_0
   try clear hcz12_1
   try clear hcz12_2
   try clear hcz12_3
   try clear hcz17_0
   try clear hcz17_1
   try clear hcz17_2
   try clear hcz17_3
   try clear hcz19_0
   try clear hcz19_1
   try clear hcz19_2
   try clear hcz19_3
   try clear hcz21_0
   try clear hcz21_1
   try clear hcz21_2
   try clear hcz21_3
   try clear hfz12_0
   try clear hfz12_1
   try clear hfz12_2
   try clear hfz12_3
   try clear hfz17_0
   try clear hfz17_1
   try clear hfz17_2
   try clear hfz17_3
   try clear hfz19_0
   try clear hfz19_1
   try clear hfz19_2
   try clear hfz19_3
   try clear hfz21_0
   try clear hfz21_1
   try clear hfz21_2
   try clear hfz21_3
   obtain ⟨kq, x34_7, rfl, HA, HJ7, HO_148003, BK147, HB⟩ := hcut
   cases kq with
   | zero => exact absurd HA.out (by simp [racewaylaw3_NetParts.j0])
   | succ kj7 =>
    (have H := HA.out);(clear HA);(simp only [racewaylaw3_NetParts.j0] at H)
    by_cases c23 : x34_7 = true
    ·(subst c23);(have H1 : (some false) = some r := by rw [if_pos rfl] at H; exact H);(clear H);(have H := H1);(clear H1);(exact absurd ((Option.some.inj H).trans hrT_.out) (by simp))
    ·(replace c23 := Bool.eq_false_iff.mpr c23);(subst c23);(have H1 : (racewaylaw3_NetParts.l0 kj7 l2 a3 0 0 1 t141 t142 t143 t144) = some r := by rw [if_neg (show ¬ (false = true) by decide)] at H; exact H);(clear H);(have H := H1);(clear H1);(have H' := Aside0.mk H);(clear H)
     go_wp2
     go_loopg [11, 12, 13] kj7 (fun kq v11 v12 v13 w' => ∃ (x11_2 : Int) (x12_2 : Int) (x13_2 : Int), v11 = .int .i64 x11_2 ∧ v12 = .int .i64 x12_2 ∧ v13 = .int .i64 x13_2 ∧ Aside0 (racewaylaw3_NetParts.l0 kq l2 a3 x11_2 x12_2 x13_2 t141 t142 t143 t144 = some r) ∧ Aside0 (kq ≤ kj7) ∧ Aside0 (Kd.R k34 34 w' w.heap.size (fun _ => True) (.slice Ao13 t144.length co13) t144) ∧ Aside0 (w'.heap[gb147]? = some (.cells #[.int .i64 t141, .int .i64 t142, .int .i64 t143, (.slice Ao13 t144.length co13)] 26 (0, 0))) ∧ Aside0 (Below w.heap.size w w'))
     case atStart => exact ⟨(0), (0), (1), (by first | rfl | (simp; done) | (simp [*]; done)), (by first | rfl | (simp; done) | (simp [*]; done)), (by first | rfl | (simp; done) | (simp [*]; done)), H', ⟨Nat.le_refl _⟩, ⟨by (with_reducible repeat first | apply Kd.R_alloc | apply Kd.R_drewN | apply Kd.R_drew); exact HO_148003.out⟩, ⟨by (with_reducible repeat first | refine blk_drewN ?_ _ | refine blk_drew ?_ | refine blk_alloc ?_ _); exact BK147.out⟩, ⟨by repeat (first | (with_reducible first | exact HB.out | apply below_alloc | apply pw_below_drewN | apply below_drew1 | refine below_set ?_ GE147.out) | exact HB.out)⟩⟩
     case round =>
      clear H'
      try clear c1
      try clear c2
      try clear p2
      try clear c3
      try clear c5
      try clear c6
      try clear c7
      try clear c15
      try clear c15b0
      try clear c15b1
      try clear c23
      try clear hcz12_0
      try clear hcz12_1
      try clear hcz12_2
      try clear hcz12_3
      try clear hcz17_0
      try clear hcz17_1
      try clear hcz17_2
      try clear hcz17_3
      try clear hcz19_0
      try clear hcz19_1
      try clear hcz19_2
      try clear hcz19_3
      try clear hcz21_0
      try clear hcz21_1
      try clear hcz21_2
      try clear hcz21_3
      try clear hfz12_0
      try clear hfz12_1
      try clear hfz12_2
      try clear hfz12_3
      try clear hfz17_0
      try clear hfz17_1
      try clear hfz17_2
      try clear hfz17_3
      try clear hfz19_0
      try clear hfz19_1
      try clear hfz19_2
      try clear hfz19_3
      try clear hfz21_0
      try clear hfz21_1
      try clear hfz21_2
      try clear hfz21_3
      try clear p2
      obtain ⟨x11_2, x12_2, x13_2, rfl, rfl, rfl, HA, HK2, HO_148003, BK147, HB⟩ := hrel
      cases gk with
      | zero => exact absurd HA.out (by simp [racewaylaw3_NetParts.l0])
      | succ k2 =>
       (have H := HA.out);(clear HA);(simp only [racewaylaw3_NetParts.l0] at H)
       by_cases c24 : x13_2 ≤ t141
       ·(rw [if_pos c24] at H);(have c24b0 : decide (x13_2 ≤ t141) = true := decide_eq_true c24);(clear c24);(replace H := Option.bind_eq_some_iff.mp H);(obtain ⟨t150, A250, H⟩ := H);(replace H : (racewaylaw3_NetParts.l1 k2 l2 a3 x11_2 x12_2 x13_2 t150 0 t141 t142 t143 t144) = some r := H);(have A25 := Aside0.mk A250);(clear A250);(have H' := Aside0.mk H);(clear H);(have hcz26_0 : wr.cell? ⟨gb147, 0, none⟩ = some (.int .i64 t141) := (blk_cell BK147.out 0).trans rfl);(have hcz26_1 : wr.cell? ⟨gb147, 1, none⟩ = some (.int .i64 t142) := (blk_cell BK147.out 1).trans rfl);(have hcz26_2 : wr.cell? ⟨gb147, 2, none⟩ = some (.int .i64 t143) := (blk_cell BK147.out 2).trans rfl);(have hcz26_3 : wr.cell? ⟨gb147, 3, none⟩ = some (.slice Ao13 t144.length co13) := (blk_cell BK147.out 3).trans rfl);(have hfz26_0 := blk_frozen BK147.out 0);(have hfz26_1 := blk_frozen BK147.out 1);(have hfz26_2 := blk_frozen BK147.out 2);(have hfz26_3 := blk_frozen BK147.out 3)
        go_wp2_with (first | ((with_reducible refine gate_callee (f := 9) rfl ?_); refine goesL_ (some 43) rfl rfl Try.func9 (by kernel_rfl) rfl #[.agg #[.int .i64 t141, .int .i64 t142, .int .i64 t143, .slice Ao13 t144.length co13], .int .i64 x13_2] rfl (by (try simp only [List.map_toArray, List.map_cons, List.map_nil]); first | done | rfl | (simp only [List.length_drop, List.length_take]; rfl)) ?_; (with_reducible refine (net_Out.calls t141 t142 t143 _ _ t144 x13_2 t150 _ ?side1 ?side2 A25.out).mono ?_); (case side1 => repeat (first | exact (Kd.R_reads' HO_148003.out).2.2 | (with_reducible refine Kd.C_alloc ?_ _) | (with_reducible refine Kd.C_drewN ?_ _) | (with_reducible refine Kd.C_drew ?_))); (case side2 => exact (Kd.R_reads' HO_148003.out).2.1); rintro e w27 ⟨v151, rfl, ho0, hb⟩; refine ⟨_, rfl, ?_⟩; have n0_ := Aside0.mk (Kd.R_below (by (with_reducible repeat first | apply Kd.R_alloc | apply Kd.R_drewN | apply Kd.R_drew); exact HO_148003.out) hb); have n1_ := Aside0.mk (Kd.R_lower ho0 (below_size (by repeat (first | (with_reducible first | exact HB.out | apply below_alloc | apply pw_below_drewN | apply below_drew1 | refine below_set ?_ GE147.out) | exact HB.out)))); have n2_ := Aside0.mk (blk_below (g := gb147) (o := .cells #[.int .i64 t141, .int .i64 t142, .int .i64 t143, .slice Ao13 t144.length co13] 26 (0, 0)) (by (with_reducible repeat first | refine blk_drewN ?_ _ | refine blk_drew ?_ | refine blk_alloc ?_ _); exact BK147.out) hb); have n3_ := Aside0.mk (below_step (by repeat (first | (with_reducible first | exact HB.out | apply below_alloc | apply pw_below_drewN | apply below_drew1 | refine below_set ?_ GE147.out) | exact HB.out)) hb); clear HO_148003; clear BK147; clear HB; have HO_148003 := n0_; have HO152 := n1_; have BK147 := n2_; have HB := n3_; clear n0_ n1_ n2_ n3_; (try clear hb); (try clear hb2); (try clear hk); (try clear hi); (try clear ho0)))
        go_loopg [15] k2 (fun kq v15 w' => ∃ (x15_3 : Int), v15 = .int .i64 x15_3 ∧ Aside0 (racewaylaw3_NetParts.l1 kq l2 a3 x11_2 x12_2 x13_2 t150 x15_3 t141 t142 t143 t144 = some r) ∧ Aside0 (kq ≤ k2) ∧ Aside0 (Kd.R (Kd.int .i64) 3 w' w.heap.size (fun _ => True) v151 t150) ∧ Aside0 (Kd.R k34 34 w' w.heap.size (fun _ => True) (.slice Ao13 t144.length co13) t144) ∧ Aside0 (w'.heap[gb147]? = some (.cells #[.int .i64 t141, .int .i64 t142, .int .i64 t143, (.slice Ao13 t144.length co13)] 26 (0, 0))) ∧ Aside0 (Below w.heap.size w w'))
        case atStart => exact ⟨(0), (by first | rfl | (simp; done) | (simp [*]; done)), H', ⟨Nat.le_refl _⟩, ⟨by (with_reducible repeat first | apply Kd.R_alloc | apply Kd.R_drewN | apply Kd.R_drew); exact HO152.out⟩, ⟨by (with_reducible repeat first | apply Kd.R_alloc | apply Kd.R_drewN | apply Kd.R_drew); exact HO_148003.out⟩, ⟨by (with_reducible repeat first | refine blk_drewN ?_ _ | refine blk_drew ?_ | refine blk_alloc ?_ _); exact BK147.out⟩, ⟨by repeat (first | (with_reducible first | exact HB.out | apply below_alloc | apply pw_below_drewN | apply below_drew1 | refine below_set ?_ GE147.out) | exact HB.out)⟩⟩
        case round =>
         clear H'
         try clear c1
         try clear c2
         try clear p2
         try clear c3
         try clear c5
         try clear c6
         try clear c7
         try clear c9
         try clear c15
         try clear c15b0
         try clear c15b1
         try clear c23
         try clear c24
         try clear c24b0
         try clear hcz12_0
         try clear hcz12_1
         try clear hcz12_2
         try clear hcz12_3
         try clear hcz17_0
         try clear hcz17_1
         try clear hcz17_2
         try clear hcz17_3
         try clear hcz19_0
         try clear hcz19_1
         try clear hcz19_2
         try clear hcz19_3
         try clear hcz21_0
         try clear hcz21_1
         try clear hcz21_2
         try clear hcz21_3
         try clear hcz26_0
         try clear hcz26_1
         try clear hcz26_2
         try clear hcz26_3
         try clear hfz12_0
         try clear hfz12_1
         try clear hfz12_2
         try clear hfz12_3
         try clear hfz17_0
         try clear hfz17_1
         try clear hfz17_2
         try clear hfz17_3
         try clear hfz19_0
         try clear hfz19_1
         try clear hfz19_2
         try clear hfz19_3
         try clear hfz21_0
         try clear hfz21_1
         try clear hfz21_2
         try clear hfz21_3
         try clear hfz26_0
         try clear hfz26_1
         try clear hfz26_2
         try clear hfz26_3
         try clear p2
         obtain ⟨x15_3, rfl, HA, HK3, HO_14, HO_148003, BK147, HB⟩ := hrel
         cases gk with
         | zero => exact absurd HA.out (by simp [racewaylaw3_NetParts.l1])
         | succ k3 =>
          (have H := HA.out);(clear HA);(simp only [racewaylaw3_NetParts.l1] at H)
          by_cases c28 : x15_3 < (t150.length : Int)
          ·(rw [if_pos c28] at H);(have c28b0 : decide (x15_3 < (t150.length : Int)) = true := decide_eq_true c28);(clear c28)
           by_cases c29 : 0 ≤ x15_3
           ·(rw [if_pos c29] at H);(have c29b0 : decide (0 ≤ x15_3) = true := decide_eq_true c29);(clear c29)
            by_cases c30 : (rd t150 x15_3) < 0
            ·(rw [if_pos c30] at H);(have c30b0 : decide ((rd t150 x15_3) < 0) = true := decide_eq_true c30);(clear c30);(exact absurd ((Option.some.inj H).trans hrT_.out) (by simp))
            ·(rw [if_neg c30] at H);(have c30b0 : decide ((rd t150 x15_3) < 0) = false := decide_eq_false c30);(clear c30)
             by_cases c31 : (rd t150 x15_3) ≥ (t144.length : Int)
             ·(rw [if_pos c31] at H);(have c31b0 : decide ((t144.length : Int) ≤ (rd t150 x15_3)) = true := decide_eq_true c31);(clear c31);(exact absurd ((Option.some.inj H).trans hrT_.out) (by simp))
             ·(rw [if_neg c31] at H);(have c31b0 : decide ((t144.length : Int) ≤ (rd t150 x15_3)) = false := decide_eq_false c31);(clear c31)
              by_cases c32 : 0 ≤ (rd t150 x15_3)
              ·(rw [if_pos c32] at H);(have c32b0 : decide (0 ≤ (rd t150 x15_3)) = true := decide_eq_true c32);(clear c32)
               by_cases c33 : (rd t150 x15_3) < (t144.length : Int)
               ·(rw [if_pos c33] at H);(have c33b0 : decide ((rd t150 x15_3) < (t144.length : Int)) = true := decide_eq_true c33);(clear c33)
                by_cases c34 : ((rd_T34 t144 (rd t150 x15_3)).f0) = x13_2
                ·(rw [if_pos c34] at H);(have c34b0 : (((rd_T34 t144 (rd t150 x15_3)).f0) == x13_2) = true := beq_iff_eq.mpr c34);(have c34b1 : (((rd_T34 t144 (rd t150 x15_3)).f0) != x13_2) = false := bne_eq_false_iff_eq.mpr c34);(clear c34)
                 by_cases c35 : x15_3 > 0
                 ·(rw [if_pos c35] at H);(have c35b0 : decide (0 < x15_3) = true := decide_eq_true c35);(clear c35);(obtain ⟨ji36, hji36⟩ : ∃ j_ : Int, (wrap64 (x15_3 - 1)) = j_ := ⟨_, rfl⟩);(replace H : (if 0 ≤ (ji36) then (if (ji36) < (t150.length : Int) then (if (rd t150 x15_3) ≤ (rd t150 (ji36)) then (some false) else (racewaylaw3_NetParts.l1 k3 l2 a3 x11_2 x12_2 x13_2 t150 (wrap64 (x15_3 + 1)) t141 t142 t143 t144)) else (none)) else (none)) = some r := by first | (rw [hji36] at H; exact H) | (simp only [hji36] at H ⊢; exact H));(have hji36w : (IntKind.i64.wrap (x15_3 - 1)) = ji36 := (i64_w _).trans hji36)
                  by_cases c37 : 0 ≤ (ji36)
                  ·(rw [if_pos c37] at H);(have c37b0 : decide (0 ≤ (ji36)) = true := decide_eq_true c37);(clear c37)
                   by_cases c38 : (ji36) < (t150.length : Int)
                   ·(rw [if_pos c38] at H);(have c38b0 : decide ((ji36) < (t150.length : Int)) = true := decide_eq_true c38);(clear c38)
                    by_cases c39 : (rd t150 x15_3) ≤ (rd t150 (ji36))
                    ·(rw [if_pos c39] at H);(have c39b0 : decide ((rd t150 x15_3) ≤ (rd t150 (ji36))) = true := decide_eq_true c39);(clear c39);(exact absurd ((Option.some.inj H).trans hrT_.out) (by simp))
                    ·(rw [if_neg c39] at H);(have c39b0 : decide ((rd t150 x15_3) ≤ (rd t150 (ji36))) = false := decide_eq_false c39);(clear c39)
                     as_aux_lemma =>
                      (have H' := Aside0.mk H);(clear H);(obtain ⟨Ao40, co40, eo40⟩ := Kd.R_slice HO_14.out);(subst eo40)
                      try go_wp2
                      (have n0_ := Aside0.mk (Kd.R_drew HO_14.out));(have n1_ := Aside0.mk (Kd.R_drew HO_148003.out));(have n2_ := Aside0.mk (blk_drew BK147.out));(have n3_ := Aside0.mk (below_drew1 HB.out));(clear HO_14);(clear HO_148003);(clear BK147);(clear HB);(have HO_14 := n0_);(have HO_148003 := n1_);(have BK147 := n2_);(have HB := n3_);(clear n0_ n1_ n2_ n3_);(have p153 : 0 ≤ (x15_3 : Int) := of_decide_eq_true (by first | (with_reducible assumption) | assumption));(have q153 : x15_3 < (t150.length : Int) := of_decide_eq_true (by first | (with_reducible assumption) | assumption));(obtain ⟨ad153, e153, hx153_0⟩ := Kd.at_int (Kd.R_reads' HO_14.out).2.2 x15_3 p153 q153);(cases e153);(replace p153 := eq_true p153);(replace q153 := eq_true q153);(have p154 : 0 ≤ (x15_3 : Int) := of_decide_eq_true (by first | (with_reducible assumption) | assumption));(have q154 : x15_3 < (t150.length : Int) := of_decide_eq_true (by first | (with_reducible assumption) | assumption));(obtain ⟨ad154, e154, hx154_0⟩ := Kd.at_int (Kd.R_reads' HO_14.out).2.2 x15_3 p154 q154);(obtain rfl : ad153 = ad154 := (by injection e154));(replace p154 := eq_true p154);(replace q154 := eq_true q154);(have p155 : 0 ≤ (x15_3 : Int) := of_decide_eq_true (by first | (with_reducible assumption) | assumption));(have q155 : x15_3 < (t150.length : Int) := of_decide_eq_true (by first | (with_reducible assumption) | assumption));(obtain ⟨ad155, e155, hx155_0⟩ := Kd.at_int (Kd.R_reads' HO_14.out).2.2 x15_3 p155 q155);(obtain rfl : ad153 = ad155 := (by injection e155));(replace p155 := eq_true p155);(replace q155 := eq_true q155);(have p156 : 0 ≤ ((rd t150 x15_3) : Int) := of_decide_eq_true (by first | (with_reducible assumption) | assumption));(have q156 : (rd t150 x15_3) < (t144.length : Int) := of_decide_eq_true (by first | (with_reducible assumption) | assumption));(obtain ⟨ad156, e156, hx156_0, hx156_1, hx156_2⟩ := at_T34 (Kd.R_reads' HO_148003.out).2.2 (rd t150 x15_3) p156 q156);(cases e156);(replace p156 := eq_true p156);(replace q156 := eq_true q156);(have p157 : 0 ≤ (x15_3 : Int) := of_decide_eq_true (by first | (with_reducible assumption) | assumption));(have q157 : x15_3 < (t150.length : Int) := of_decide_eq_true (by first | (with_reducible assumption) | assumption));(obtain ⟨ad157, e157, hx157_0⟩ := Kd.at_int (Kd.R_reads' HO_14.out).2.2 x15_3 p157 q157);(obtain rfl : ad153 = ad157 := (by injection e157));(replace p157 := eq_true p157);(replace q157 := eq_true q157);(have p158 : 0 ≤ ((ji36) : Int) := of_decide_eq_true (by first | (with_reducible assumption) | assumption));(have q158 : (ji36) < (t150.length : Int) := of_decide_eq_true (by first | (with_reducible assumption) | assumption));(obtain ⟨ad158, e158, hx158_0⟩ := Kd.at_int (Kd.R_reads' HO_14.out).2.2 (ji36) p158 q158);(obtain rfl : ad153 = ad158 := (by injection e158));(replace p158 := eq_true p158);(replace q158 := eq_true q158);(refine start_ (n := 44) (S := fun w' => w'.cell? ⟨gb147, 0, none⟩ = some (.int .i64 t141) ∧ w'.cell? ⟨gb147, 1, none⟩ = some (.int .i64 t142) ∧ w'.cell? ⟨gb147, 2, none⟩ = some (.int .i64 t143) ∧ w'.cell? ⟨gb147, 3, none⟩ = some (.slice (some ad156) t144.length co13) ∧ w'.cell? (ad153.add (x15_3).toNat) = some (.int .i64 (rd t150 x15_3)) ∧ w'.cell? (ad153.add (x15_3).toNat) = some (.int .i64 (rd t150 x15_3)) ∧ w'.cell? (ad153.add (x15_3).toNat) = some (.int .i64 (rd t150 x15_3)) ∧ w'.cell? (ad156.add (((rd t150 x15_3)).toNat * 3)) = some (.int .i64 ((rd_T34 t144 (rd t150 x15_3)).f0)) ∧ w'.cell? ⟨(ad156.add (((rd t150 x15_3)).toNat * 3)).block, (ad156.add (((rd t150 x15_3)).toNat * 3)).off + 1, none⟩ = some (.int .i64 ((rd_T34 t144 (rd t150 x15_3)).f1)) ∧ w'.cell? ⟨(ad156.add (((rd t150 x15_3)).toNat * 3)).block, (ad156.add (((rd t150 x15_3)).toNat * 3)).off + 2, none⟩ = some (.int .i64 ((rd_T34 t144 (rd t150 x15_3)).f2)) ∧ w'.cell? (ad153.add (x15_3).toNat) = some (.int .i64 (rd t150 x15_3)) ∧ w'.cell? (ad153.add ((ji36)).toNat) = some (.int .i64 (rd t150 (ji36)))) (ds := []) m0_ (by kernel_rfl) rfl rfl ⟨(blk_cell BK147.out 0).trans rfl, (blk_cell BK147.out 1).trans rfl, (blk_cell BK147.out 2).trans rfl, (blk_cell BK147.out 3).trans rfl, hx153_0, hx154_0, hx155_0, hx156_0, hx156_1, hx156_2, hx157_0, hx158_0⟩ (fun hHeld => ?_); refine with_tabW racewaylaw3_NetParts.tab16 racewaylaw3_NetParts.bits16 (fun HT_ HW_ => ?_));(generalize wr.drew = w41 at HO_14 HO_148003 BK147 HB hx153_0 hx154_0 hx155_0 hx156_0 hx156_1 hx156_2 hx157_0 hx158_0 hHeld ⊢);(refine pure_ (i := 0) (N := some 50) (v := ?_) (a' := ?_) m1_ rfl rfl (any_of HT_.out (by kernel_rfl)) (fun _ _ _ h => h) (Or.inl ⟨by rfl, ?_⟩) ?_ ?_)
                      rotate_left
                      ·intro w'
                       go_simp
                       with_reducible rfl
                      rotate_left
                      ·simp only [Act.put, setIfInBounds_toArray, set_cons_zero, set_cons_succ, i64_w, i32_w]
                       rfl
                      refine pure_ (i := 1) (N := some 51) (v := ?_) (a' := ?_) m2_ rfl rfl (any_of HT_.out (by kernel_rfl)) (fun _ _ _ h => h) (Or.inl ⟨by rfl, ?_⟩) ?_ ?_
                      rotate_left
                      ·intro w'
                       go_simp
                       with_reducible rfl
                      rotate_left
                      ·simp only [Act.put, setIfInBounds_toArray, set_cons_zero, set_cons_succ, i64_w, i32_w]
                       rfl
                      refine pure_ (i := 2) (N := some 52) (v := ?_) (a' := ?_) m3_ rfl rfl (any_of HT_.out (by kernel_rfl)) (fun _ _ _ h => h) (Or.inl ⟨by rfl, ?_⟩) ?_ ?_
                      rotate_left
                      ·intro w'
                       go_simp
                       with_reducible rfl
                      rotate_left
                      ·simp only [Act.put, setIfInBounds_toArray, set_cons_zero, set_cons_succ, i64_w, i32_w]
                       rfl
                      refine take_ (i := 3) (N := some 53) (v := ?_) (a' := ?_) m4_ rfl rfl (take_ofW HT_.out HW_.out (by kernel_rfl)) (fun _ _ _ h => h) (Or.inl ⟨by rfl, ?_⟩) hHeld ?_ ?_
                      rotate_left
                      ·rintro w' ⟨s0, s1, s2, s3, s4, s5, s6, s7, s8, s9, s10, s11⟩
                       go_simp
                       with_reducible rfl
                      rotate_left
                      ·simp only [Act.put, setIfInBounds_toArray, set_cons_zero, set_cons_succ, i64_w, i32_w]
                       rfl
                      refine pure_ (i := 4) (N := some 54) (v := ?_) (a' := ?_) m5_ rfl rfl (any_of HT_.out (by kernel_rfl)) (fun _ _ _ h => h) (Or.inl ⟨by rfl, ?_⟩) ?_ ?_
                      rotate_left
                      ·intro w'
                       go_simp
                       with_reducible rfl
                      rotate_left
                      ·simp only [Act.put, setIfInBounds_toArray, set_cons_zero, set_cons_succ, i64_w, i32_w]
                       rfl
                      refine pure_ (i := 5) (N := some 55) (v := ?_) (a' := ?_) m6_ rfl rfl (any_of HT_.out (by kernel_rfl)) (fun _ _ _ h => h) (Or.inl ⟨by rfl, ?_⟩) ?_ ?_
                      rotate_left
                      ·intro w'
                       go_simp
                       with_reducible rfl
                      rotate_left
                      ·simp only [Act.put, setIfInBounds_toArray, set_cons_zero, set_cons_succ, i64_w, i32_w]
                       rfl
                      refine pure_ (i := 6) (N := some 56) (v := ?_) (a' := ?_) m7_ rfl rfl (any_of HT_.out (by kernel_rfl)) (fun _ _ _ h => h) (Or.inl ⟨by rfl, ?_⟩) ?_ ?_
                      rotate_left
                      ·intro w'
                       go_simp
                       with_reducible rfl
                      rotate_left
                      ·simp only [Act.put, setIfInBounds_toArray, set_cons_zero, set_cons_succ, i64_w, i32_w]
                       rfl
                      refine pure_ (i := 7) (N := some 57) (v := ?_) (a' := ?_) m8_ rfl rfl (any_of HT_.out (by kernel_rfl)) (fun _ _ _ h => h) (Or.inl ⟨by rfl, ?_⟩) ?_ ?_
                      rotate_left
                      ·intro w'
                       go_simp
                       with_reducible rfl
                      rotate_left
                      ·simp only [Act.put, setIfInBounds_toArray, set_cons_zero, set_cons_succ, i64_w, i32_w]
                       rfl
                      refine pure_ (i := 8) (N := some 58) (v := ?_) (a' := ?_) m9_ rfl rfl (any_of HT_.out (by kernel_rfl)) (fun _ _ _ h => h) (Or.inl ⟨by rfl, ?_⟩) ?_ ?_
                      rotate_left
                      ·intro w'
                       go_simp
                       with_reducible rfl
                      rotate_left
                      ·simp only [Act.put, setIfInBounds_toArray, set_cons_zero, set_cons_succ, i64_w, i32_w]
                       rfl
                      refine pure_ (i := 10) (N := some 60) (v := ?_) (a' := ?_) m10_ rfl rfl (any_of HT_.out (by kernel_rfl)) (fun _ _ _ h => h) (Or.inl ⟨by rfl, ?_⟩) ?_ ?_
                      rotate_left
                      ·intro w'
                       go_simp
                       with_reducible rfl
                      rotate_left
                      ·simp only [Act.put, setIfInBounds_toArray, set_cons_zero, set_cons_succ, i64_w, i32_w]
                       rfl
                      refine take_ (i := 9) (N := some 59) (v := ?_) (a' := ?_) m11_ rfl rfl (take_ofW HT_.out HW_.out (by kernel_rfl)) (fun _ _ _ h => h) (Or.inl ⟨by rfl, ?_⟩) hHeld ?_ ?_
                      rotate_left
                      ·rintro w' ⟨s0, s1, s2, s3, s4, s5, s6, s7, s8, s9, s10, s11⟩
                       go_simp
                       with_reducible rfl
                      rotate_left
                      ·simp only [Act.put, setIfInBounds_toArray, set_cons_zero, set_cons_succ, i64_w, i32_w]
                       rfl
                      refine take_ (i := 11) (N := some 61) (v := ?_) (a' := ?_) m12_ rfl rfl (take_ofW HT_.out HW_.out (by kernel_rfl)) (fun _ _ _ h => h) (Or.inl ⟨by rfl, ?_⟩) hHeld ?_ ?_
                      rotate_left
                      ·rintro w' ⟨s0, s1, s2, s3, s4, s5, s6, s7, s8, s9, s10, s11⟩
                       go_simp
                       with_reducible rfl
                      rotate_left
                      ·simp only [Act.put, setIfInBounds_toArray, set_cons_zero, set_cons_succ, i64_w, i32_w]
                       rfl
                      refine pure_ (i := 12) (N := some 62) (v := ?_) (a' := ?_) m13_ rfl rfl (any_of HT_.out (by kernel_rfl)) (fun _ _ _ h => h) (Or.inl ⟨by rfl, ?_⟩) ?_ ?_
                      rotate_left
                      ·intro w'
                       go_simp
                       with_reducible rfl
                      rotate_left
                      ·simp only [Act.put, setIfInBounds_toArray, set_cons_zero, set_cons_succ, i64_w, i32_w]
                       rfl
                      refine pure_ (i := 13) (N := some 63) (v := ?_) (a' := ?_) m14_ rfl rfl (any_of HT_.out (by kernel_rfl)) (fun _ _ _ h => h) (Or.inl ⟨by rfl, ?_⟩) ?_ ?_
                      rotate_left
                      ·intro w'
                       go_simp
                       with_reducible rfl
                      rotate_left
                      ·simp only [Act.put, setIfInBounds_toArray, set_cons_zero, set_cons_succ, i64_w, i32_w]
                       rfl
                      refine pure_ (i := 14) (N := some 64) (v := ?_) (a' := ?_) m15_ rfl rfl (any_of HT_.out (by kernel_rfl)) (fun _ _ _ h => h) (Or.inl ⟨by rfl, ?_⟩) ?_ ?_
                      rotate_left
                      ·intro w'
                       go_simp
                       with_reducible rfl
                      rotate_left
                      ·simp only [Act.put, setIfInBounds_toArray, set_cons_zero, set_cons_succ, i64_w, i32_w]
                       rfl
                      refine pure_ (i := 15) (N := some 65) (v := ?_) (a' := ?_) m16_ rfl rfl (any_of HT_.out (by kernel_rfl)) (fun _ _ _ h => h) (Or.inl ⟨by rfl, ?_⟩) ?_ ?_
                      rotate_left
                      ·intro w'
                       go_simp
                       with_reducible rfl
                      rotate_left
                      ·simp only [Act.put, setIfInBounds_toArray, set_cons_zero, set_cons_succ, i64_w, i32_w]
                       rfl
                      refine pure_ (i := 16) (N := some 66) (v := ?_) (a' := ?_) m17_ rfl rfl (any_of HT_.out (by kernel_rfl)) (fun _ _ _ h => h) (Or.inl ⟨by rfl, ?_⟩) ?_ ?_
                      rotate_left
                      ·intro w'
                       go_simp
                       with_reducible rfl
                      rotate_left
                      ·simp only [Act.put, setIfInBounds_toArray, set_cons_zero, set_cons_succ, i64_w, i32_w]
                       rfl
                      refine pure_ (i := 18) (N := some 68) (v := ?_) (a' := ?_) m18_ rfl rfl (any_of HT_.out (by kernel_rfl)) (fun _ _ _ h => h) (Or.inl ⟨by rfl, ?_⟩) ?_ ?_
                      rotate_left
                      ·intro w'
                       go_simp
                       with_reducible rfl
                      rotate_left
                      ·simp only [Act.put, setIfInBounds_toArray, set_cons_zero, set_cons_succ, i64_w, i32_w]
                       rfl
                      refine pure_ (i := 19) (N := some 69) (v := ?_) (a' := ?_) m19_ rfl rfl (any_of HT_.out (by kernel_rfl)) (fun _ _ _ h => h) (Or.inl ⟨by rfl, ?_⟩) ?_ ?_
                      rotate_left
                      ·intro w'
                       go_simp
                       with_reducible rfl
                      rotate_left
                      ·simp only [Act.put, setIfInBounds_toArray, set_cons_zero, set_cons_succ, i64_w, i32_w]
                       rfl
                      refine pure_ (i := 20) (N := some 70) (v := ?_) (a' := ?_) m20_ rfl rfl (any_of HT_.out (by kernel_rfl)) (fun _ _ _ h => h) (Or.inl ⟨by rfl, ?_⟩) ?_ ?_
                      rotate_left
                      ·intro w'
                       go_simp
                       with_reducible rfl
                      rotate_left
                      ·simp only [Act.put, setIfInBounds_toArray, set_cons_zero, set_cons_succ, i64_w, i32_w]
                       rfl
                      refine pure_ (i := 25) (N := some 75) (v := ?_) (a' := ?_) m21_ rfl rfl (any_of HT_.out (by kernel_rfl)) (fun _ _ _ h => h) (Or.inl ⟨by rfl, ?_⟩) ?_ ?_
                      rotate_left
                      ·intro w'
                       go_simp
                       with_reducible rfl
                      rotate_left
                      ·simp only [Act.put, setIfInBounds_toArray, set_cons_zero, set_cons_succ, i64_w, i32_w]
                       rfl
                      refine take_ (i := 17) (N := some 67) (v := ?_) (a' := ?_) m22_ rfl rfl (take_ofW HT_.out HW_.out (by kernel_rfl)) (fun _ _ _ h => h) (Or.inl ⟨by rfl, ?_⟩) hHeld ?_ ?_
                      rotate_left
                      ·rintro w' ⟨s0, s1, s2, s3, s4, s5, s6, s7, s8, s9, s10, s11⟩
                       go_simp
                       with_reducible rfl
                      rotate_left
                      ·simp only [Act.put, setIfInBounds_toArray, set_cons_zero, set_cons_succ, i64_w, i32_w]
                       rfl
                      refine take_ (i := 21) (N := some 71) (v := ?_) (a' := ?_) m23_ rfl rfl (take_ofW HT_.out HW_.out (by kernel_rfl)) (fun _ _ _ h => h) (Or.inl ⟨by rfl, ?_⟩) hHeld ?_ ?_
                      rotate_left
                      ·rintro w' ⟨s0, s1, s2, s3, s4, s5, s6, s7, s8, s9, s10, s11⟩
                       go_simp
                       with_reducible rfl
                      rotate_left
                      ·simp only [Act.put, setIfInBounds_toArray, set_cons_zero, set_cons_succ, i64_w, i32_w]
                       rfl
                      refine pure_ (i := 22) (N := some 72) (v := ?_) (a' := ?_) m24_ rfl rfl (any_of HT_.out (by kernel_rfl)) (fun _ _ _ h => h) (Or.inl ⟨by rfl, ?_⟩) ?_ ?_
                      rotate_left
                      ·intro w'
                       go_simp
                       with_reducible rfl
                      rotate_left
                      ·simp only [Act.put, setIfInBounds_toArray, set_cons_zero, set_cons_succ, i64_w, i32_w]
                       rfl
                      refine pure_ (i := 23) (N := some 73) (v := ?_) (a' := ?_) m25_ rfl rfl (any_of HT_.out (by kernel_rfl)) (fun _ _ _ h => h) (Or.inl ⟨by rfl, ?_⟩) ?_ ?_
                      rotate_left
                      ·intro w'
                       go_simp
                       with_reducible rfl
                      rotate_left
                      ·simp only [Act.put, setIfInBounds_toArray, set_cons_zero, set_cons_succ, i64_w, i32_w]
                       rfl
                      refine take_ (i := 24) (N := some 74) (v := ?_) (a' := ?_) m26_ rfl rfl (take_ofW HT_.out HW_.out (by kernel_rfl)) (fun _ _ _ h => h) (Or.inl ⟨by rfl, ?_⟩) hHeld ?_ ?_
                      rotate_left
                      ·rintro w' ⟨s0, s1, s2, s3, s4, s5, s6, s7, s8, s9, s10, s11⟩
                       go_simp
                       with_reducible rfl
                      rotate_left
                      ·simp only [Act.put, setIfInBounds_toArray, set_cons_zero, set_cons_succ, i64_w, i32_w]
                       rfl
                      refine pure_ (i := 26) (N := some 76) (v := ?_) (a' := ?_) m27_ rfl rfl (any_of HT_.out (by kernel_rfl)) (fun _ _ _ h => h) (Or.inl ⟨by rfl, ?_⟩) ?_ ?_
                      rotate_left
                      ·intro w'
                       go_simp
                       with_reducible rfl
                      rotate_left
                      ·simp only [Act.put, setIfInBounds_toArray, set_cons_zero, set_cons_succ, i64_w, i32_w]
                       rfl
                      refine pure_ (i := 27) (N := some 77) (v := ?_) (a' := ?_) m28_ rfl rfl (any_of HT_.out (by kernel_rfl)) (fun _ _ _ h => h) (Or.inl ⟨by rfl, ?_⟩) ?_ ?_
                      rotate_left
                      ·intro w'
                       go_simp
                       with_reducible rfl
                      rotate_left
                      ·simp only [Act.put, setIfInBounds_toArray, set_cons_zero, set_cons_succ, i64_w, i32_w]
                       rfl
                      refine pure_ (i := 28) (N := some 78) (v := ?_) (a' := ?_) m29_ rfl rfl (any_of HT_.out (by kernel_rfl)) (fun _ _ _ h => h) (Or.inl ⟨by rfl, ?_⟩) ?_ ?_
                      rotate_left
                      ·intro w'
                       go_simp
                       with_reducible rfl
                      rotate_left
                      ·simp only [Act.put, setIfInBounds_toArray, set_cons_zero, set_cons_succ, i64_w, i32_w]
                       rfl
                      refine pure_ (i := 29) (N := some 79) (v := ?_) (a' := ?_) m30_ rfl rfl (any_of HT_.out (by kernel_rfl)) (fun _ _ _ h => h) (Or.inl ⟨by rfl, ?_⟩) ?_ ?_
                      rotate_left
                      ·intro w'
                       go_simp
                       with_reducible rfl
                      rotate_left
                      ·simp only [Act.put, setIfInBounds_toArray, set_cons_zero, set_cons_succ, i64_w, i32_w]
                       rfl
                      refine pure_ (i := 30) (N := some 80) (v := ?_) (a' := ?_) m31_ rfl rfl (any_of HT_.out (by kernel_rfl)) (fun _ _ _ h => h) (Or.inl ⟨by rfl, ?_⟩) ?_ ?_
                      rotate_left
                      ·intro w'
                       go_simp
                       with_reducible rfl
                      rotate_left
                      ·simp only [Act.put, setIfInBounds_toArray, set_cons_zero, set_cons_succ, i64_w, i32_w]
                       rfl
                      refine pure_ (i := 31) (N := some 81) (v := ?_) (a' := ?_) m32_ rfl rfl (any_of HT_.out (by kernel_rfl)) (fun _ _ _ h => h) (Or.inl ⟨by rfl, ?_⟩) ?_ ?_
                      rotate_left
                      ·intro w'
                       go_simp
                       with_reducible rfl
                      rotate_left
                      ·simp only [Act.put, setIfInBounds_toArray, set_cons_zero, set_cons_succ, i64_w, i32_w]
                       rfl
                      refine pure_ (i := 32) (N := some 82) (v := ?_) (a' := ?_) m33_ rfl rfl (any_of HT_.out (by kernel_rfl)) (fun _ _ _ h => h) (Or.inl ⟨by rfl, ?_⟩) ?_ ?_
                      rotate_left
                      ·intro w'
                       go_simp
                       with_reducible rfl
                      rotate_left
                      ·simp only [Act.put, setIfInBounds_toArray, set_cons_zero, set_cons_succ, i64_w, i32_w]
                       rfl
                      refine pure_ (i := 33) (N := some 83) (v := ?_) (a' := ?_) m34_ rfl rfl (any_of HT_.out (by kernel_rfl)) (fun _ _ _ h => h) (Or.inl ⟨by rfl, ?_⟩) ?_ ?_
                      rotate_left
                      ·intro w'
                       go_simp
                       with_reducible rfl
                      rotate_left
                      ·simp only [Act.put, setIfInBounds_toArray, set_cons_zero, set_cons_succ, i64_w, i32_w]
                       rfl
                      refine pure_ (i := 34) (N := some 84) (v := ?_) (a' := ?_) m35_ rfl rfl (any_of HT_.out (by kernel_rfl)) (fun _ _ _ h => h) (Or.inl ⟨by rfl, ?_⟩) ?_ ?_
                      rotate_left
                      ·intro w'
                       go_simp
                       with_reducible rfl
                      rotate_left
                      ·simp only [Act.put, setIfInBounds_toArray, set_cons_zero, set_cons_succ, i64_w, i32_w]
                       rfl
                      refine pure_ (i := 36) (N := some 86) (v := ?_) (a' := ?_) #[true, true, true, true, true, true, true, true, true, true, true, true, true, true, true, true, true, true, true, true, true, true, true, true, true, true, true, true, true, true, true, true, true, true, true, false, true, false, false, false, false, false, false, false] rfl rfl (any_of HT_.out (by kernel_rfl)) (fun _ _ _ h => h) (Or.inl ⟨by rfl, ?_⟩) ?_ ?_
                      rotate_left
                      ·intro w'
                       go_simp
                       with_reducible rfl
                      rotate_left
                      ·simp only [Act.put, setIfInBounds_toArray, set_cons_zero, set_cons_succ, i64_w, i32_w]
                       rfl
                      refine pure_ (i := 37) (N := some 87) (v := ?_) (a' := ?_) #[true, true, true, true, true, true, true, true, true, true, true, true, true, true, true, true, true, true, true, true, true, true, true, true, true, true, true, true, true, true, true, true, true, true, true, false, true, true, false, false, false, false, false, false] rfl rfl (any_of HT_.out (by kernel_rfl)) (fun _ _ _ h => h) (Or.inl ⟨by rfl, ?_⟩) ?_ ?_
                      rotate_left
                      ·intro w'
                       go_simp
                       with_reducible rfl
                      rotate_left
                      ·simp only [Act.put, setIfInBounds_toArray, set_cons_zero, set_cons_succ, i64_w, i32_w]
                       rfl
                      refine pure_ (i := 38) (N := some 88) (v := ?_) (a' := ?_) #[true, true, true, true, true, true, true, true, true, true, true, true, true, true, true, true, true, true, true, true, true, true, true, true, true, true, true, true, true, true, true, true, true, true, true, false, true, true, true, false, false, false, false, false] rfl rfl (any_of HT_.out (by kernel_rfl)) (fun _ _ _ h => h) (Or.inl ⟨by rfl, ?_⟩) ?_ ?_
                      rotate_left
                      ·intro w'
                       go_simp
                       with_reducible rfl
                      rotate_left
                      ·simp only [Act.put, setIfInBounds_toArray, set_cons_zero, set_cons_succ, i64_w, i32_w]
                       rfl
                      refine pure_ (i := 39) (N := some 89) (v := ?_) (a' := ?_) #[true, true, true, true, true, true, true, true, true, true, true, true, true, true, true, true, true, true, true, true, true, true, true, true, true, true, true, true, true, true, true, true, true, true, true, false, true, true, true, true, false, false, false, false] rfl rfl (any_of HT_.out (by kernel_rfl)) (fun _ _ _ h => h) (Or.inl ⟨by rfl, ?_⟩) ?_ ?_
                      rotate_left
                      ·intro w'
                       go_simp
                       with_reducible rfl
                      rotate_left
                      ·simp only [Act.put, setIfInBounds_toArray, set_cons_zero, set_cons_succ, i64_w, i32_w]
                       rfl
                      refine take_ (i := 35) (N := some 85) (v := ?_) (a' := ?_) m36_ rfl rfl (take_ofW HT_.out HW_.out (by kernel_rfl)) (fun _ _ _ h => h) (Or.inl ⟨by rfl, ?_⟩) hHeld ?_ ?_
                      rotate_left
                      ·rintro w' ⟨s0, s1, s2, s3, s4, s5, s6, s7, s8, s9, s10, s11⟩
                       go_simp
                       with_reducible rfl
                      rotate_left
                      ·simp only [Act.put, setIfInBounds_toArray, set_cons_zero, set_cons_succ, i64_w, i32_w]
                       rfl
                      refine take_ (i := 40) (N := some 90) (v := ?_) (a' := ?_) m37_ rfl rfl (take_ofW HT_.out HW_.out (by kernel_rfl)) (fun _ _ _ h => h) (Or.inl ⟨by rfl, ?_⟩) hHeld ?_ ?_
                      rotate_left
                      ·rintro w' ⟨s0, s1, s2, s3, s4, s5, s6, s7, s8, s9, s10, s11⟩
                       go_simp
                       with_reducible rfl
                      rotate_left
                      ·simp only [Act.put, setIfInBounds_toArray, set_cons_zero, set_cons_succ, i64_w, i32_w]
                       rfl
                      refine pure_ (i := 41) (N := some 91) (v := ?_) (a' := ?_) m38_ rfl rfl (any_of HT_.out (by kernel_rfl)) (fun _ _ _ h => h) (Or.inl ⟨by rfl, ?_⟩) ?_ ?_
                      rotate_left
                      ·intro w'
                       go_simp
                       with_reducible rfl
                      rotate_left
                      ·simp only [Act.put, setIfInBounds_toArray, set_cons_zero, set_cons_succ, i64_w, i32_w]
                       rfl
                      refine pure_ (i := 42) (N := some 92) (v := ?_) (a' := ?_) m39_ rfl rfl (any_of HT_.out (by kernel_rfl)) (fun _ _ _ h => h) (Or.inl ⟨by rfl, ?_⟩) ?_ ?_
                      rotate_left
                      ·intro w'
                       go_simp
                       with_reducible rfl
                      rotate_left
                      ·simp only [Act.put, setIfInBounds_toArray, set_cons_zero, set_cons_succ, i64_w, i32_w]
                       rfl
                      refine pure_ (i := 43) (N := some 93) (v := ?_) (a' := ?_) m40_ rfl rfl (any_of HT_.out (by kernel_rfl)) (fun _ _ _ h => h) (Or.inl ⟨by rfl, ?_⟩) ?_ ?_
                      rotate_left
                      ·intro w'
                       go_simp
                       with_reducible rfl
                      rotate_left
                      ·simp only [Act.put, setIfInBounds_toArray, set_cons_zero, set_cons_succ, i64_w, i32_w]
                       rfl
                      refine done_ (done_of HT_.out (by kernel_rfl)) ?_
                      try go_wp2
                      go_roundg k3
                      case measure => have := HJ7.out; have := HK2.out; have := HK3.out; omega
                      case rel => exact ⟨(wrap64 (x15_3 + 1)), (by first | rfl | (simp; done) | (simp [*]; done)), H', ⟨by have := HJ7.out; have := HK2.out; have := HK3.out; omega⟩, ⟨by (with_reducible repeat first | apply Kd.R_alloc | apply Kd.R_drewN | apply Kd.R_drew); exact HO_14.out⟩, ⟨by (with_reducible repeat first | apply Kd.R_alloc | apply Kd.R_drewN | apply Kd.R_drew); exact HO_148003.out⟩, ⟨by (with_reducible repeat first | refine blk_drewN ?_ _ | refine blk_drew ?_ | refine blk_alloc ?_ _); exact BK147.out⟩, ⟨by repeat (first | (with_reducible first | exact HB.out | apply below_alloc | apply pw_below_drewN | apply below_drew1 | refine below_set ?_ GE147.out) | exact HB.out)⟩⟩
                   ·(rw [if_neg c38] at H);(exact absurd H (by simp))
                  ·(rw [if_neg c37] at H);(exact absurd H (by simp))
                 ·(rw [if_neg c35] at H);(have c35b0 : decide (0 < x15_3) = false := decide_eq_false c35);(clear c35)
                  as_aux_lemma =>
                   (have H' := Aside0.mk H);(clear H);(obtain ⟨Ao42, co42, eo42⟩ := Kd.R_slice HO_14.out);(subst eo42)
                   try go_wp2
                   (have n0_ := Aside0.mk (Kd.R_drew HO_14.out));(have n1_ := Aside0.mk (Kd.R_drew HO_148003.out));(have n2_ := Aside0.mk (blk_drew BK147.out));(have n3_ := Aside0.mk (below_drew1 HB.out));(clear HO_14);(clear HO_148003);(clear BK147);(clear HB);(have HO_14 := n0_);(have HO_148003 := n1_);(have BK147 := n2_);(have HB := n3_);(clear n0_ n1_ n2_ n3_);(have p153 : 0 ≤ (x15_3 : Int) := of_decide_eq_true (by first | (with_reducible assumption) | assumption));(have q153 : x15_3 < (t150.length : Int) := of_decide_eq_true (by first | (with_reducible assumption) | assumption));(obtain ⟨ad153, e153, hx153_0⟩ := Kd.at_int (Kd.R_reads' HO_14.out).2.2 x15_3 p153 q153);(cases e153);(replace p153 := eq_true p153);(replace q153 := eq_true q153);(have p154 : 0 ≤ (x15_3 : Int) := of_decide_eq_true (by first | (with_reducible assumption) | assumption));(have q154 : x15_3 < (t150.length : Int) := of_decide_eq_true (by first | (with_reducible assumption) | assumption));(obtain ⟨ad154, e154, hx154_0⟩ := Kd.at_int (Kd.R_reads' HO_14.out).2.2 x15_3 p154 q154);(obtain rfl : ad153 = ad154 := (by injection e154));(replace p154 := eq_true p154);(replace q154 := eq_true q154);(have p155 : 0 ≤ (x15_3 : Int) := of_decide_eq_true (by first | (with_reducible assumption) | assumption));(have q155 : x15_3 < (t150.length : Int) := of_decide_eq_true (by first | (with_reducible assumption) | assumption));(obtain ⟨ad155, e155, hx155_0⟩ := Kd.at_int (Kd.R_reads' HO_14.out).2.2 x15_3 p155 q155);(obtain rfl : ad153 = ad155 := (by injection e155));(replace p155 := eq_true p155);(replace q155 := eq_true q155);(have p156 : 0 ≤ ((rd t150 x15_3) : Int) := of_decide_eq_true (by first | (with_reducible assumption) | assumption));(have q156 : (rd t150 x15_3) < (t144.length : Int) := of_decide_eq_true (by first | (with_reducible assumption) | assumption));(obtain ⟨ad156, e156, hx156_0, hx156_1, hx156_2⟩ := at_T34 (Kd.R_reads' HO_148003.out).2.2 (rd t150 x15_3) p156 q156);(cases e156);(replace p156 := eq_true p156);(replace q156 := eq_true q156);(refine start_ (n := 44) (S := fun w' => w'.cell? ⟨gb147, 0, none⟩ = some (.int .i64 t141) ∧ w'.cell? ⟨gb147, 1, none⟩ = some (.int .i64 t142) ∧ w'.cell? ⟨gb147, 2, none⟩ = some (.int .i64 t143) ∧ w'.cell? ⟨gb147, 3, none⟩ = some (.slice (some ad156) t144.length co13) ∧ w'.cell? (ad153.add (x15_3).toNat) = some (.int .i64 (rd t150 x15_3)) ∧ w'.cell? (ad153.add (x15_3).toNat) = some (.int .i64 (rd t150 x15_3)) ∧ w'.cell? (ad153.add (x15_3).toNat) = some (.int .i64 (rd t150 x15_3)) ∧ w'.cell? (ad156.add (((rd t150 x15_3)).toNat * 3)) = some (.int .i64 ((rd_T34 t144 (rd t150 x15_3)).f0)) ∧ w'.cell? ⟨(ad156.add (((rd t150 x15_3)).toNat * 3)).block, (ad156.add (((rd t150 x15_3)).toNat * 3)).off + 1, none⟩ = some (.int .i64 ((rd_T34 t144 (rd t150 x15_3)).f1)) ∧ w'.cell? ⟨(ad156.add (((rd t150 x15_3)).toNat * 3)).block, (ad156.add (((rd t150 x15_3)).toNat * 3)).off + 2, none⟩ = some (.int .i64 ((rd_T34 t144 (rd t150 x15_3)).f2))) (ds := []) m0_ (by kernel_rfl) rfl rfl ⟨(blk_cell BK147.out 0).trans rfl, (blk_cell BK147.out 1).trans rfl, (blk_cell BK147.out 2).trans rfl, (blk_cell BK147.out 3).trans rfl, hx153_0, hx154_0, hx155_0, hx156_0, hx156_1, hx156_2⟩ (fun hHeld => ?_); refine with_tabW racewaylaw3_NetParts.tab16 racewaylaw3_NetParts.bits16 (fun HT_ HW_ => ?_));(generalize wr.drew = w43 at HO_14 HO_148003 BK147 HB hx153_0 hx154_0 hx155_0 hx156_0 hx156_1 hx156_2 hHeld ⊢);(refine pure_ (i := 0) (N := some 50) (v := ?_) (a' := ?_) m1_ rfl rfl (any_of HT_.out (by kernel_rfl)) (fun _ _ _ h => h) (Or.inl ⟨by rfl, ?_⟩) ?_ ?_)
                   rotate_left
                   ·intro w'
                    go_simp
                    with_reducible rfl
                   rotate_left
                   ·simp only [Act.put, setIfInBounds_toArray, set_cons_zero, set_cons_succ, i64_w, i32_w]
                    rfl
                   refine pure_ (i := 1) (N := some 51) (v := ?_) (a' := ?_) m2_ rfl rfl (any_of HT_.out (by kernel_rfl)) (fun _ _ _ h => h) (Or.inl ⟨by rfl, ?_⟩) ?_ ?_
                   rotate_left
                   ·intro w'
                    go_simp
                    with_reducible rfl
                   rotate_left
                   ·simp only [Act.put, setIfInBounds_toArray, set_cons_zero, set_cons_succ, i64_w, i32_w]
                    rfl
                   refine pure_ (i := 2) (N := some 52) (v := ?_) (a' := ?_) m3_ rfl rfl (any_of HT_.out (by kernel_rfl)) (fun _ _ _ h => h) (Or.inl ⟨by rfl, ?_⟩) ?_ ?_
                   rotate_left
                   ·intro w'
                    go_simp
                    with_reducible rfl
                   rotate_left
                   ·simp only [Act.put, setIfInBounds_toArray, set_cons_zero, set_cons_succ, i64_w, i32_w]
                    rfl
                   refine take_ (i := 3) (N := some 53) (v := ?_) (a' := ?_) m4_ rfl rfl (take_ofW HT_.out HW_.out (by kernel_rfl)) (fun _ _ _ h => h) (Or.inl ⟨by rfl, ?_⟩) hHeld ?_ ?_
                   rotate_left
                   ·rintro w' ⟨s0, s1, s2, s3, s4, s5, s6, s7, s8, s9⟩
                    go_simp
                    with_reducible rfl
                   rotate_left
                   ·simp only [Act.put, setIfInBounds_toArray, set_cons_zero, set_cons_succ, i64_w, i32_w]
                    rfl
                   refine pure_ (i := 4) (N := some 54) (v := ?_) (a' := ?_) m5_ rfl rfl (any_of HT_.out (by kernel_rfl)) (fun _ _ _ h => h) (Or.inl ⟨by rfl, ?_⟩) ?_ ?_
                   rotate_left
                   ·intro w'
                    go_simp
                    with_reducible rfl
                   rotate_left
                   ·simp only [Act.put, setIfInBounds_toArray, set_cons_zero, set_cons_succ, i64_w, i32_w]
                    rfl
                   refine pure_ (i := 5) (N := some 55) (v := ?_) (a' := ?_) m6_ rfl rfl (any_of HT_.out (by kernel_rfl)) (fun _ _ _ h => h) (Or.inl ⟨by rfl, ?_⟩) ?_ ?_
                   rotate_left
                   ·intro w'
                    go_simp
                    with_reducible rfl
                   rotate_left
                   ·simp only [Act.put, setIfInBounds_toArray, set_cons_zero, set_cons_succ, i64_w, i32_w]
                    rfl
                   refine pure_ (i := 6) (N := some 56) (v := ?_) (a' := ?_) m7_ rfl rfl (any_of HT_.out (by kernel_rfl)) (fun _ _ _ h => h) (Or.inl ⟨by rfl, ?_⟩) ?_ ?_
                   rotate_left
                   ·intro w'
                    go_simp
                    with_reducible rfl
                   rotate_left
                   ·simp only [Act.put, setIfInBounds_toArray, set_cons_zero, set_cons_succ, i64_w, i32_w]
                    rfl
                   refine pure_ (i := 7) (N := some 57) (v := ?_) (a' := ?_) m8_ rfl rfl (any_of HT_.out (by kernel_rfl)) (fun _ _ _ h => h) (Or.inl ⟨by rfl, ?_⟩) ?_ ?_
                   rotate_left
                   ·intro w'
                    go_simp
                    with_reducible rfl
                   rotate_left
                   ·simp only [Act.put, setIfInBounds_toArray, set_cons_zero, set_cons_succ, i64_w, i32_w]
                    rfl
                   refine pure_ (i := 8) (N := some 58) (v := ?_) (a' := ?_) m9_ rfl rfl (any_of HT_.out (by kernel_rfl)) (fun _ _ _ h => h) (Or.inl ⟨by rfl, ?_⟩) ?_ ?_
                   rotate_left
                   ·intro w'
                    go_simp
                    with_reducible rfl
                   rotate_left
                   ·simp only [Act.put, setIfInBounds_toArray, set_cons_zero, set_cons_succ, i64_w, i32_w]
                    rfl
                   refine pure_ (i := 10) (N := some 60) (v := ?_) (a' := ?_) m10_ rfl rfl (any_of HT_.out (by kernel_rfl)) (fun _ _ _ h => h) (Or.inl ⟨by rfl, ?_⟩) ?_ ?_
                   rotate_left
                   ·intro w'
                    go_simp
                    with_reducible rfl
                   rotate_left
                   ·simp only [Act.put, setIfInBounds_toArray, set_cons_zero, set_cons_succ, i64_w, i32_w]
                    rfl
                   refine take_ (i := 9) (N := some 59) (v := ?_) (a' := ?_) m11_ rfl rfl (take_ofW HT_.out HW_.out (by kernel_rfl)) (fun _ _ _ h => h) (Or.inl ⟨by rfl, ?_⟩) hHeld ?_ ?_
                   rotate_left
                   ·rintro w' ⟨s0, s1, s2, s3, s4, s5, s6, s7, s8, s9⟩
                    go_simp
                    with_reducible rfl
                   rotate_left
                   ·simp only [Act.put, setIfInBounds_toArray, set_cons_zero, set_cons_succ, i64_w, i32_w]
                    rfl
                   refine take_ (i := 11) (N := some 61) (v := ?_) (a' := ?_) m12_ rfl rfl (take_ofW HT_.out HW_.out (by kernel_rfl)) (fun _ _ _ h => h) (Or.inl ⟨by rfl, ?_⟩) hHeld ?_ ?_
                   rotate_left
                   ·rintro w' ⟨s0, s1, s2, s3, s4, s5, s6, s7, s8, s9⟩
                    go_simp
                    with_reducible rfl
                   rotate_left
                   ·simp only [Act.put, setIfInBounds_toArray, set_cons_zero, set_cons_succ, i64_w, i32_w]
                    rfl
                   refine pure_ (i := 12) (N := some 62) (v := ?_) (a' := ?_) m13_ rfl rfl (any_of HT_.out (by kernel_rfl)) (fun _ _ _ h => h) (Or.inl ⟨by rfl, ?_⟩) ?_ ?_
                   rotate_left
                   ·intro w'
                    go_simp
                    with_reducible rfl
                   rotate_left
                   ·simp only [Act.put, setIfInBounds_toArray, set_cons_zero, set_cons_succ, i64_w, i32_w]
                    rfl
                   refine pure_ (i := 13) (N := some 63) (v := ?_) (a' := ?_) m14_ rfl rfl (any_of HT_.out (by kernel_rfl)) (fun _ _ _ h => h) (Or.inl ⟨by rfl, ?_⟩) ?_ ?_
                   rotate_left
                   ·intro w'
                    go_simp
                    with_reducible rfl
                   rotate_left
                   ·simp only [Act.put, setIfInBounds_toArray, set_cons_zero, set_cons_succ, i64_w, i32_w]
                    rfl
                   refine pure_ (i := 14) (N := some 64) (v := ?_) (a' := ?_) m15_ rfl rfl (any_of HT_.out (by kernel_rfl)) (fun _ _ _ h => h) (Or.inl ⟨by rfl, ?_⟩) ?_ ?_
                   rotate_left
                   ·intro w'
                    go_simp
                    with_reducible rfl
                   rotate_left
                   ·simp only [Act.put, setIfInBounds_toArray, set_cons_zero, set_cons_succ, i64_w, i32_w]
                    rfl
                   refine pure_ (i := 15) (N := some 65) (v := ?_) (a' := ?_) m16_ rfl rfl (any_of HT_.out (by kernel_rfl)) (fun _ _ _ h => h) (Or.inl ⟨by rfl, ?_⟩) ?_ ?_
                   rotate_left
                   ·intro w'
                    go_simp
                    with_reducible rfl
                   rotate_left
                   ·simp only [Act.put, setIfInBounds_toArray, set_cons_zero, set_cons_succ, i64_w, i32_w]
                    rfl
                   refine pure_ (i := 16) (N := some 66) (v := ?_) (a' := ?_) m17_ rfl rfl (any_of HT_.out (by kernel_rfl)) (fun _ _ _ h => h) (Or.inl ⟨by rfl, ?_⟩) ?_ ?_
                   rotate_left
                   ·intro w'
                    go_simp
                    with_reducible rfl
                   rotate_left
                   ·simp only [Act.put, setIfInBounds_toArray, set_cons_zero, set_cons_succ, i64_w, i32_w]
                    rfl
                   refine pure_ (i := 18) (N := some 68) (v := ?_) (a' := ?_) m18_ rfl rfl (any_of HT_.out (by kernel_rfl)) (fun _ _ _ h => h) (Or.inl ⟨by rfl, ?_⟩) ?_ ?_
                   rotate_left
                   ·intro w'
                    go_simp
                    with_reducible rfl
                   rotate_left
                   ·simp only [Act.put, setIfInBounds_toArray, set_cons_zero, set_cons_succ, i64_w, i32_w]
                    rfl
                   refine pure_ (i := 19) (N := some 69) (v := ?_) (a' := ?_) m19_ rfl rfl (any_of HT_.out (by kernel_rfl)) (fun _ _ _ h => h) (Or.inl ⟨by rfl, ?_⟩) ?_ ?_
                   rotate_left
                   ·intro w'
                    go_simp
                    with_reducible rfl
                   rotate_left
                   ·simp only [Act.put, setIfInBounds_toArray, set_cons_zero, set_cons_succ, i64_w, i32_w]
                    rfl
                   refine pure_ (i := 20) (N := some 70) (v := ?_) (a' := ?_) m20_ rfl rfl (any_of HT_.out (by kernel_rfl)) (fun _ _ _ h => h) (Or.inl ⟨by rfl, ?_⟩) ?_ ?_
                   rotate_left
                   ·intro w'
                    go_simp
                    with_reducible rfl
                   rotate_left
                   ·simp only [Act.put, setIfInBounds_toArray, set_cons_zero, set_cons_succ, i64_w, i32_w]
                    rfl
                   refine pure_ (i := 25) (N := some 75) (v := ?_) (a' := ?_) m21_ rfl rfl (any_of HT_.out (by kernel_rfl)) (fun _ _ _ h => h) (Or.inl ⟨by rfl, ?_⟩) ?_ ?_
                   rotate_left
                   ·intro w'
                    go_simp
                    with_reducible rfl
                   rotate_left
                   ·simp only [Act.put, setIfInBounds_toArray, set_cons_zero, set_cons_succ, i64_w, i32_w]
                    rfl
                   refine take_ (i := 17) (N := some 67) (v := ?_) (a' := ?_) m22_ rfl rfl (take_ofW HT_.out HW_.out (by kernel_rfl)) (fun _ _ _ h => h) (Or.inl ⟨by rfl, ?_⟩) hHeld ?_ ?_
                   rotate_left
                   ·rintro w' ⟨s0, s1, s2, s3, s4, s5, s6, s7, s8, s9⟩
                    go_simp
                    with_reducible rfl
                   rotate_left
                   ·simp only [Act.put, setIfInBounds_toArray, set_cons_zero, set_cons_succ, i64_w, i32_w]
                    rfl
                   refine take_ (i := 21) (N := some 71) (v := ?_) (a' := ?_) m23_ rfl rfl (take_ofW HT_.out HW_.out (by kernel_rfl)) (fun _ _ _ h => h) (Or.inl ⟨by rfl, ?_⟩) hHeld ?_ ?_
                   rotate_left
                   ·rintro w' ⟨s0, s1, s2, s3, s4, s5, s6, s7, s8, s9⟩
                    go_simp
                    with_reducible rfl
                   rotate_left
                   ·simp only [Act.put, setIfInBounds_toArray, set_cons_zero, set_cons_succ, i64_w, i32_w]
                    rfl
                   refine pure_ (i := 22) (N := some 72) (v := ?_) (a' := ?_) m24_ rfl rfl (any_of HT_.out (by kernel_rfl)) (fun _ _ _ h => h) (Or.inl ⟨by rfl, ?_⟩) ?_ ?_
                   rotate_left
                   ·intro w'
                    go_simp
                    with_reducible rfl
                   rotate_left
                   ·simp only [Act.put, setIfInBounds_toArray, set_cons_zero, set_cons_succ, i64_w, i32_w]
                    rfl
                   refine pure_ (i := 23) (N := some 73) (v := ?_) (a' := ?_) m25_ rfl rfl (any_of HT_.out (by kernel_rfl)) (fun _ _ _ h => h) (Or.inl ⟨by rfl, ?_⟩) ?_ ?_
                   rotate_left
                   ·intro w'
                    go_simp
                    with_reducible rfl
                   rotate_left
                   ·simp only [Act.put, setIfInBounds_toArray, set_cons_zero, set_cons_succ, i64_w, i32_w]
                    rfl
                   refine take_ (i := 24) (N := some 74) (v := ?_) (a' := ?_) m26_ rfl rfl (take_ofW HT_.out HW_.out (by kernel_rfl)) (fun _ _ _ h => h) (Or.inl ⟨by rfl, ?_⟩) hHeld ?_ ?_
                   rotate_left
                   ·rintro w' ⟨s0, s1, s2, s3, s4, s5, s6, s7, s8, s9⟩
                    go_simp
                    with_reducible rfl
                   rotate_left
                   ·simp only [Act.put, setIfInBounds_toArray, set_cons_zero, set_cons_succ, i64_w, i32_w]
                    rfl
                   refine pure_ (i := 26) (N := some 76) (v := ?_) (a' := ?_) m27_ rfl rfl (any_of HT_.out (by kernel_rfl)) (fun _ _ _ h => h) (Or.inl ⟨by rfl, ?_⟩) ?_ ?_
                   rotate_left
                   ·intro w'
                    go_simp
                    with_reducible rfl
                   rotate_left
                   ·simp only [Act.put, setIfInBounds_toArray, set_cons_zero, set_cons_succ, i64_w, i32_w]
                    rfl
                   refine pure_ (i := 27) (N := some 77) (v := ?_) (a' := ?_) m28_ rfl rfl (any_of HT_.out (by kernel_rfl)) (fun _ _ _ h => h) (Or.inl ⟨by rfl, ?_⟩) ?_ ?_
                   rotate_left
                   ·intro w'
                    go_simp
                    with_reducible rfl
                   rotate_left
                   ·simp only [Act.put, setIfInBounds_toArray, set_cons_zero, set_cons_succ, i64_w, i32_w]
                    rfl
                   refine pure_ (i := 28) (N := some 78) (v := ?_) (a' := ?_) m29_ rfl rfl (any_of HT_.out (by kernel_rfl)) (fun _ _ _ h => h) (Or.inl ⟨by rfl, ?_⟩) ?_ ?_
                   rotate_left
                   ·intro w'
                    go_simp
                    with_reducible rfl
                   rotate_left
                   ·simp only [Act.put, setIfInBounds_toArray, set_cons_zero, set_cons_succ, i64_w, i32_w]
                    rfl
                   refine pure_ (i := 29) (N := some 79) (v := ?_) (a' := ?_) m30_ rfl rfl (any_of HT_.out (by kernel_rfl)) (fun _ _ _ h => h) (Or.inl ⟨by rfl, ?_⟩) ?_ ?_
                   rotate_left
                   ·intro w'
                    go_simp
                    with_reducible rfl
                   rotate_left
                   ·simp only [Act.put, setIfInBounds_toArray, set_cons_zero, set_cons_succ, i64_w, i32_w]
                    rfl
                   refine pure_ (i := 30) (N := some 80) (v := ?_) (a' := ?_) m31_ rfl rfl (any_of HT_.out (by kernel_rfl)) (fun _ _ _ h => h) (Or.inl ⟨by rfl, ?_⟩) ?_ ?_
                   rotate_left
                   ·intro w'
                    go_simp
                    with_reducible rfl
                   rotate_left
                   ·simp only [Act.put, setIfInBounds_toArray, set_cons_zero, set_cons_succ, i64_w, i32_w]
                    rfl
                   refine pure_ (i := 31) (N := some 81) (v := ?_) (a' := ?_) m32_ rfl rfl (any_of HT_.out (by kernel_rfl)) (fun _ _ _ h => h) (Or.inl ⟨by rfl, ?_⟩) ?_ ?_
                   rotate_left
                   ·intro w'
                    go_simp
                    with_reducible rfl
                   rotate_left
                   ·simp only [Act.put, setIfInBounds_toArray, set_cons_zero, set_cons_succ, i64_w, i32_w]
                    rfl
                   refine pure_ (i := 32) (N := some 82) (v := undef) (a' := ?_) m33_ rfl rfl (any_of HT_.out (by kernel_rfl)) (fun _ _ _ h => h) (Or.inr ⟨by rfl, rfl⟩) ?_ ?_
                   rotate_left
                   ·simp only [Act.put, setIfInBounds_toArray, set_cons_zero, set_cons_succ, i64_w, i32_w]
                    rfl
                   refine pure_ (i := 33) (N := some 83) (v := undef) (a' := ?_) m34_ rfl rfl (any_of HT_.out (by kernel_rfl)) (fun _ _ _ h => h) (Or.inr ⟨by rfl, rfl⟩) ?_ ?_
                   rotate_left
                   ·simp only [Act.put, setIfInBounds_toArray, set_cons_zero, set_cons_succ, i64_w, i32_w]
                    rfl
                   refine pure_ (i := 34) (N := some 84) (v := undef) (a' := ?_) m35_ rfl rfl (any_of HT_.out (by kernel_rfl)) (fun _ _ _ h => h) (Or.inr ⟨by rfl, rfl⟩) ?_ ?_
                   rotate_left
                   ·simp only [Act.put, setIfInBounds_toArray, set_cons_zero, set_cons_succ, i64_w, i32_w]
                    rfl
                   refine pure_ (i := 35) (N := some 85) (v := undef) (a' := ?_) #[true, true, true, true, true, true, true, true, true, true, true, true, true, true, true, true, true, true, true, true, true, true, true, true, true, true, true, true, true, true, true, true, true, true, true, true, false, false, false, false, false, false, false, false] rfl rfl (any_of HT_.out (by kernel_rfl)) (fun _ _ _ h => h) (Or.inr ⟨by rfl, rfl⟩) ?_ ?_
                   rotate_left
                   ·simp only [Act.put, setIfInBounds_toArray, set_cons_zero, set_cons_succ, i64_w, i32_w]
                    rfl
                   refine pure_ (i := 36) (N := some 86) (v := undef) (a' := ?_) #[true, true, true, true, true, true, true, true, true, true, true, true, true, true, true, true, true, true, true, true, true, true, true, true, true, true, true, true, true, true, true, true, true, true, true, true, true, false, false, false, false, false, false, false] rfl rfl (any_of HT_.out (by kernel_rfl)) (fun _ _ _ h => h) (Or.inr ⟨by rfl, rfl⟩) ?_ ?_
                   rotate_left
                   ·simp only [Act.put, setIfInBounds_toArray, set_cons_zero, set_cons_succ, i64_w, i32_w]
                    rfl
                   refine pure_ (i := 37) (N := some 87) (v := undef) (a' := ?_) #[true, true, true, true, true, true, true, true, true, true, true, true, true, true, true, true, true, true, true, true, true, true, true, true, true, true, true, true, true, true, true, true, true, true, true, true, true, true, false, false, false, false, false, false] rfl rfl (any_of HT_.out (by kernel_rfl)) (fun _ _ _ h => h) (Or.inr ⟨by rfl, rfl⟩) ?_ ?_
                   rotate_left
                   ·simp only [Act.put, setIfInBounds_toArray, set_cons_zero, set_cons_succ, i64_w, i32_w]
                    rfl
                   refine pure_ (i := 38) (N := some 88) (v := undef) (a' := ?_) #[true, true, true, true, true, true, true, true, true, true, true, true, true, true, true, true, true, true, true, true, true, true, true, true, true, true, true, true, true, true, true, true, true, true, true, true, true, true, true, false, false, false, false, false] rfl rfl (any_of HT_.out (by kernel_rfl)) (fun _ _ _ h => h) (Or.inr ⟨by rfl, rfl⟩) ?_ ?_
                   rotate_left
                   ·simp only [Act.put, setIfInBounds_toArray, set_cons_zero, set_cons_succ, i64_w, i32_w]
                    rfl
                   refine pure_ (i := 39) (N := some 89) (v := undef) (a' := ?_) m36_ rfl rfl (any_of HT_.out (by kernel_rfl)) (fun _ _ _ h => h) (Or.inr ⟨by rfl, rfl⟩) ?_ ?_
                   rotate_left
                   ·simp only [Act.put, setIfInBounds_toArray, set_cons_zero, set_cons_succ, i64_w, i32_w]
                    rfl
                   refine pure_ (i := 40) (N := some 90) (v := undef) (a' := ?_) m37_ rfl rfl (any_of HT_.out (by kernel_rfl)) (fun _ _ _ h => h) (Or.inr ⟨by rfl, rfl⟩) ?_ ?_
                   rotate_left
                   ·simp only [Act.put, setIfInBounds_toArray, set_cons_zero, set_cons_succ, i64_w, i32_w]
                    rfl
                   refine pure_ (i := 41) (N := some 91) (v := undef) (a' := ?_) m38_ rfl rfl (any_of HT_.out (by kernel_rfl)) (fun _ _ _ h => h) (Or.inr ⟨by rfl, rfl⟩) ?_ ?_
                   rotate_left
                   ·simp only [Act.put, setIfInBounds_toArray, set_cons_zero, set_cons_succ, i64_w, i32_w]
                    rfl
                   refine pure_ (i := 42) (N := some 92) (v := ?_) (a' := ?_) m39_ rfl rfl (any_of HT_.out (by kernel_rfl)) (fun _ _ _ h => h) (Or.inl ⟨by rfl, ?_⟩) ?_ ?_
                   rotate_left
                   ·intro w'
                    go_simp
                    with_reducible rfl
                   rotate_left
                   ·simp only [Act.put, setIfInBounds_toArray, set_cons_zero, set_cons_succ, i64_w, i32_w]
                    rfl
                   refine pure_ (i := 43) (N := some 93) (v := ?_) (a' := ?_) m40_ rfl rfl (any_of HT_.out (by kernel_rfl)) (fun _ _ _ h => h) (Or.inl ⟨by rfl, ?_⟩) ?_ ?_
                   rotate_left
                   ·intro w'
                    go_simp
                    with_reducible rfl
                   rotate_left
                   ·simp only [Act.put, setIfInBounds_toArray, set_cons_zero, set_cons_succ, i64_w, i32_w]
                    rfl
                   refine done_ (done_of HT_.out (by kernel_rfl)) ?_
                   try go_wp2
                   go_roundg k3
                   case measure => have := HJ7.out; have := HK2.out; have := HK3.out; omega
                   case rel => exact ⟨(wrap64 (x15_3 + 1)), (by first | rfl | (simp; done) | (simp [*]; done)), H', ⟨by have := HJ7.out; have := HK2.out; have := HK3.out; omega⟩, ⟨by (with_reducible repeat first | apply Kd.R_alloc | apply Kd.R_drewN | apply Kd.R_drew); exact HO_14.out⟩, ⟨by (with_reducible repeat first | apply Kd.R_alloc | apply Kd.R_drewN | apply Kd.R_drew); exact HO_148003.out⟩, ⟨by (with_reducible repeat first | refine blk_drewN ?_ _ | refine blk_drew ?_ | refine blk_alloc ?_ _); exact BK147.out⟩, ⟨by repeat (first | (with_reducible first | exact HB.out | apply below_alloc | apply pw_below_drewN | apply below_drew1 | refine below_set ?_ GE147.out) | exact HB.out)⟩⟩
                ·(rw [if_neg c34] at H);(have c34b0 : (((rd_T34 t144 (rd t150 x15_3)).f0) == x13_2) = false := beq_eq_false_iff_ne.mpr c34);(have c34b1 : (((rd_T34 t144 (rd t150 x15_3)).f0) != x13_2) = true := bne_iff_ne.mpr c34);(exact absurd ((Option.some.inj H).trans hrT_.out) (by simp))
               ·(rw [if_neg c33] at H);(exact absurd H (by simp))
              ·(rw [if_neg c32] at H);(exact absurd H (by simp))
           ·(rw [if_neg c29] at H);(exact absurd H (by simp))
          ·(rw [if_neg c28] at H);(have c28b0 : decide (x15_3 < (t150.length : Int)) = false := decide_eq_false c28);(clear c28);(replace H := Option.bind_eq_some_iff.mp H);(obtain ⟨t159, A440, H⟩ := H);(replace H : (racewaylaw3_NetParts.l0 k3 l2 a3 (wrap64 (x11_2 + (t150.length : Int))) (wrap64 (x12_2 + (t159.length : Int))) (wrap64 (x13_2 + 1)) t141 t142 t143 t144) = some r := H);(have A44 := Aside0.mk A440);(clear A440)
           as_aux_lemma =>
            (have H' := Aside0.mk H);(clear H);(obtain ⟨Ao45, co45, eo45⟩ := Kd.R_slice HO_14.out);(subst eo45);(have hcz46_0 : wr.cell? ⟨gb147, 0, none⟩ = some (.int .i64 t141) := (blk_cell BK147.out 0).trans rfl);(have hcz46_1 : wr.cell? ⟨gb147, 1, none⟩ = some (.int .i64 t142) := (blk_cell BK147.out 1).trans rfl);(have hcz46_2 : wr.cell? ⟨gb147, 2, none⟩ = some (.int .i64 t143) := (blk_cell BK147.out 2).trans rfl);(have hcz46_3 : wr.cell? ⟨gb147, 3, none⟩ = some (.slice Ao13 t144.length co13) := (blk_cell BK147.out 3).trans rfl);(have hfz46_0 := blk_frozen BK147.out 0);(have hfz46_1 := blk_frozen BK147.out 1);(have hfz46_2 := blk_frozen BK147.out 2);(have hfz46_3 := blk_frozen BK147.out 3)
            go_wp2_with (first | ((with_reducible refine gate_callee (f := 10) rfl ?_); refine goesL_ (some 101) rfl rfl Try.func10 (by kernel_rfl) rfl #[.agg #[.int .i64 t141, .int .i64 t142, .int .i64 t143, .slice Ao13 t144.length co13], .int .i64 x13_2] rfl (by (try simp only [List.map_toArray, List.map_cons, List.map_nil]); first | done | rfl | (simp only [List.length_drop, List.length_take]; rfl)) ?_; (with_reducible refine (net_In.calls t141 t142 t143 _ _ t144 x13_2 t159 _ ?side1 ?side2 A44.out).mono ?_); (case side1 => repeat (first | exact (Kd.R_reads' HO_148003.out).2.2 | (with_reducible refine Kd.C_alloc ?_ _) | (with_reducible refine Kd.C_drewN ?_ _) | (with_reducible refine Kd.C_drew ?_))); (case side2 => exact (Kd.R_reads' HO_148003.out).2.1); rintro e w47 ⟨v160, rfl, ho0, hb⟩; refine ⟨_, rfl, ?_⟩; have n0_ := Aside0.mk (Kd.R_elder' (by (with_reducible repeat first | apply Kd.R_alloc | apply Kd.R_drewN | apply Kd.R_drew); exact HO_14.out) (Kd.R_base ho0) hb); have n1_ := Aside0.mk (Kd.R_below (by (with_reducible repeat first | apply Kd.R_alloc | apply Kd.R_drewN | apply Kd.R_drew); exact HO_148003.out) hb); have n2_ := Aside0.mk (Kd.R_lower (Kd.R_new' ho0 (Kd.R_lt (by (with_reducible repeat first | apply Kd.R_alloc | apply Kd.R_drewN | apply Kd.R_drew); exact HO_14.out))) (below_size (by repeat (first | (with_reducible first | exact HB.out | apply below_alloc | apply pw_below_drewN | apply below_drew1 | refine below_set ?_ GE147.out) | exact HB.out)))); have n3_ := Aside0.mk (blk_below (g := gb147) (o := .cells #[.int .i64 t141, .int .i64 t142, .int .i64 t143, .slice Ao13 t144.length co13] 26 (0, 0)) (by (with_reducible repeat first | refine blk_drewN ?_ _ | refine blk_drew ?_ | refine blk_alloc ?_ _); exact BK147.out) hb); have n4_ := Aside0.mk (below_step (by repeat (first | (with_reducible first | exact HB.out | apply below_alloc | apply pw_below_drewN | apply below_drew1 | refine below_set ?_ GE147.out) | exact HB.out)) hb); clear HO_14; clear HO_148003; clear BK147; clear HB; have HO_14 := n0_; have HO_148003 := n1_; have HO161 := n2_; have BK147 := n3_; have HB := n4_; clear n0_ n1_ n2_ n3_ n4_; (try clear hb); (try clear hb2); (try clear hk); (try clear hi); (try clear ho0); obtain ⟨Ao48, co48, eo48⟩ := Kd.R_slice HO161.out; subst eo48))
            go_roundg k3
            case measure => have := HJ7.out; have := HK2.out; have := HK3.out; omega
            case rel => exact ⟨(wrap64 (x11_2 + (t150.length : Int))), (wrap64 (x12_2 + (t159.length : Int))), (wrap64 (x13_2 + 1)), (by first | rfl | (simp; done) | (simp [*]; done)), (by first | rfl | (simp; done) | (simp [*]; done)), (by first | rfl | (simp; done) | (simp [*]; done)), H', ⟨by have := HJ7.out; have := HK2.out; have := HK3.out; omega⟩, ⟨by (with_reducible repeat first | apply Kd.R_alloc | apply Kd.R_drewN | apply Kd.R_drew); exact HO_148003.out⟩, ⟨by (with_reducible repeat first | refine blk_drewN ?_ _ | refine blk_drew ?_ | refine blk_alloc ?_ _); exact BK147.out⟩, ⟨by repeat (first | (with_reducible first | exact HB.out | apply below_alloc | apply pw_below_drewN | apply below_drew1 | refine below_set ?_ GE147.out) | exact HB.out)⟩⟩
       ·(rw [if_neg c24] at H);(have c24b0 : decide (x13_2 ≤ t141) = false := decide_eq_false c24);(clear c24);(have HC49 := Aside0.mk H);(clear H);(have hcz50_0 : wr.cell? ⟨gb147, 0, none⟩ = some (.int .i64 t141) := (blk_cell BK147.out 0).trans rfl);(have hcz50_1 : wr.cell? ⟨gb147, 1, none⟩ = some (.int .i64 t142) := (blk_cell BK147.out 1).trans rfl);(have hcz50_2 : wr.cell? ⟨gb147, 2, none⟩ = some (.int .i64 t143) := (blk_cell BK147.out 2).trans rfl);(have hcz50_3 : wr.cell? ⟨gb147, 3, none⟩ = some (.slice Ao13 t144.length co13) := (blk_cell BK147.out 3).trans rfl);(have hfz50_0 := blk_frozen BK147.out 0);(have hfz50_1 := blk_frozen BK147.out 1);(have hfz50_2 := blk_frozen BK147.out 2);(have hfz50_3 := blk_frozen BK147.out 3)
        go_upto_region 20 with (fail)
        go_cut [128] (fun v128 wc => ∃ (kq : Nat) (x128_48 : Bool), v128 = .bool x128_48 ∧ Aside0 (racewaylaw3_NetParts.j3 kq l2 a3 x128_48 t141 t142 t143 t144 = some r) ∧ Aside0 (kq ≤ k2) ∧ Aside0 (Kd.R k34 34 wc w.heap.size (fun _ => True) (.slice Ao13 t144.length co13) t144) ∧ Aside0 (wc.heap[gb147]? = some (.cells #[.int .i64 t141, .int .i64 t142, .int .i64 t143, (.slice Ao13 t144.length co13)] 26 (0, 0))) ∧ Aside0 (Below w.heap.size w wc))
        case first =>
         (have H := HC49.out);(clear HC49)
         by_cases c51 : x11_2 = (t144.length : Int)
         ·(rw [if_pos c51] at H);(have c51b0 : (x11_2 == (t144.length : Int)) = true := beq_iff_eq.mpr c51);(have c51b1 : (x11_2 != (t144.length : Int)) = false := bne_eq_false_iff_eq.mpr c51);(clear c51);((first | rw [c51b0] | (simp only [i64_w, i32_w]; rw [c51b0]) | skip))
          by_cases c52 : x12_2 = (t144.length : Int)
          ·(rw [if_pos c52] at H);(have c52b0 : (x12_2 == (t144.length : Int)) = true := beq_iff_eq.mpr c52);(have c52b1 : (x12_2 != (t144.length : Int)) = false := bne_eq_false_iff_eq.mpr c52);(clear c52);(replace H := Option.bind_eq_some_iff.mp H);(obtain ⟨t162, A530, H⟩ := H);(replace H : ((net_In.f t141 t142 t143 t144 (wrap64 (t141 + 1))).bind fun t165 => (racewaylaw3_NetParts.j3 k2 l2 a3 ((wrap64 ((t162.length : Int) + (t165.length : Int))) != 0) t141 t142 t143 t144)) = some r := H);(have A53 := Aside0.mk A530);(clear A530);(replace H := Option.bind_eq_some_iff.mp H);(obtain ⟨t165, A540, H⟩ := H);(replace H : (racewaylaw3_NetParts.j3 k2 l2 a3 ((wrap64 ((t162.length : Int) + (t165.length : Int))) != 0) t141 t142 t143 t144) = some r := H);(have A54 := Aside0.mk A540);(clear A540)
           as_aux_lemma =>
            (have H' := Aside0.mk H);(clear H)
            try go_wp2
            (have n0_ := Aside0.mk (Kd.R_drew HO_148003.out));(have n1_ := Aside0.mk (blk_drew BK147.out));(have n2_ := Aside0.mk (below_drew1 HB.out));(clear HO_148003);(clear BK147);(clear HB);(have HO_148003 := n0_);(have BK147 := n1_);(have HB := n2_);(clear n0_ n1_ n2_);(refine start_ (n := 25) (S := fun w' => w'.cell? ⟨gb147, 0, none⟩ = some (.int .i64 t141) ∧ w'.cell? ⟨gb147, 1, none⟩ = some (.int .i64 t142) ∧ w'.cell? ⟨gb147, 2, none⟩ = some (.int .i64 t143) ∧ w'.cell? ⟨gb147, 3, none⟩ = some (.slice Ao13 t144.length co13)) (ds := []) m41_ (by kernel_rfl) rfl rfl ⟨(blk_cell BK147.out 0).trans rfl, (blk_cell BK147.out 1).trans rfl, (blk_cell BK147.out 2).trans rfl, (blk_cell BK147.out 3).trans rfl⟩ (fun hHeld => ?_); refine with_tabW racewaylaw3_NetParts.tab20 racewaylaw3_NetParts.bits20 (fun HT_ HW_ => ?_));(generalize wr.drew = w55 at HO_148003 BK147 HB hHeld ⊢);(refine pure_ (i := 0) (N := some 104) (v := ?_) (a' := ?_) m42_ rfl rfl (any_of HT_.out (by kernel_rfl)) (fun _ _ _ h => h) (Or.inl ⟨by rfl, ?_⟩) ?_ ?_)
            rotate_left
            ·intro w'
             go_simp
             with_reducible rfl
            rotate_left
            ·simp only [Act.put, setIfInBounds_toArray, set_cons_zero, set_cons_succ, i64_w, i32_w]
             rfl
            refine pure_ (i := 1) (N := some 105) (v := ?_) (a' := ?_) m43_ rfl rfl (any_of HT_.out (by kernel_rfl)) (fun _ _ _ h => h) (Or.inl ⟨by rfl, ?_⟩) ?_ ?_
            rotate_left
            ·intro w'
             go_simp
             with_reducible rfl
            rotate_left
            ·simp only [Act.put, setIfInBounds_toArray, set_cons_zero, set_cons_succ, i64_w, i32_w]
             rfl
            refine take_ (i := 2) (N := some 106) (v := ?_) (a' := ?_) m44_ rfl rfl (take_ofW HT_.out HW_.out (by kernel_rfl)) (fun _ _ _ h => h) (Or.inl ⟨by rfl, ?_⟩) hHeld ?_ ?_
            rotate_left
            ·rintro w' ⟨s0, s1, s2, s3⟩
             go_simp
             with_reducible rfl
            rotate_left
            ·simp only [Act.put, setIfInBounds_toArray, set_cons_zero, set_cons_succ, i64_w, i32_w]
             rfl
            refine pure_ (i := 3) (N := some 107) (v := ?_) (a' := ?_) m45_ rfl rfl (any_of HT_.out (by kernel_rfl)) (fun _ _ _ h => h) (Or.inl ⟨by rfl, ?_⟩) ?_ ?_
            rotate_left
            ·intro w'
             go_simp
             with_reducible rfl
            rotate_left
            ·simp only [Act.put, setIfInBounds_toArray, set_cons_zero, set_cons_succ, i64_w, i32_w]
             rfl
            refine pure_ (i := 4) (N := some 108) (v := ?_) (a' := ?_) m46_ rfl rfl (any_of HT_.out (by kernel_rfl)) (fun _ _ _ h => h) (Or.inl ⟨by rfl, ?_⟩) ?_ ?_
            rotate_left
            ·intro w'
             go_simp
             with_reducible rfl
            rotate_left
            ·simp only [Act.put, setIfInBounds_toArray, set_cons_zero, set_cons_succ, i64_w, i32_w]
             rfl
            refine pure_ (i := 5) (N := some 109) (v := ?_) (a' := ?_) m47_ rfl rfl (any_of HT_.out (by kernel_rfl)) (fun _ _ _ h => h) (Or.inl ⟨by rfl, ?_⟩) ?_ ?_
            rotate_left
            ·intro w'
             go_simp
             with_reducible rfl
            rotate_left
            ·simp only [Act.put, setIfInBounds_toArray, set_cons_zero, set_cons_succ, i64_w, i32_w]
             rfl
            refine pure_ (i := 6) (N := some 110) (v := ?_) (a' := ?_) m48_ rfl rfl (any_of HT_.out (by kernel_rfl)) (fun _ _ _ h => h) (Or.inl ⟨by rfl, ?_⟩) ?_ ?_
            rotate_left
            ·intro w'
             go_simp
             with_reducible rfl
            rotate_left
            ·simp only [Act.put, setIfInBounds_toArray, set_cons_zero, set_cons_succ, i64_w, i32_w]
             rfl
            refine pure_ (i := 7) (N := some 111) (v := ?_) (a' := ?_) m49_ rfl rfl (any_of HT_.out (by kernel_rfl)) (fun _ _ _ h => h) (Or.inl ⟨by rfl, ?_⟩) ?_ ?_
            rotate_left
            ·intro w'
             go_simp
             with_reducible rfl
            rotate_left
            ·simp only [Act.put, setIfInBounds_toArray, set_cons_zero, set_cons_succ, i64_w, i32_w]
             rfl
            refine take_ (i := 8) (N := some 112) (v := ?_) (a' := ?_) m50_ rfl rfl (take_ofW HT_.out HW_.out (by kernel_rfl)) (fun _ _ _ h => h) (Or.inl ⟨by rfl, ?_⟩) hHeld ?_ ?_
            rotate_left
            ·rintro w' ⟨s0, s1, s2, s3⟩
             go_simp
             with_reducible rfl
            rotate_left
            ·simp only [Act.put, setIfInBounds_toArray, set_cons_zero, set_cons_succ, i64_w, i32_w]
             rfl
            refine pure_ (i := 9) (N := some 113) (v := ?_) (a' := ?_) m51_ rfl rfl (any_of HT_.out (by kernel_rfl)) (fun _ _ _ h => h) (Or.inl ⟨by rfl, ?_⟩) ?_ ?_
            rotate_left
            ·intro w'
             go_simp
             with_reducible rfl
            rotate_left
            ·simp only [Act.put, setIfInBounds_toArray, set_cons_zero, set_cons_succ, i64_w, i32_w]
             rfl
            refine pure_ (i := 10) (N := some 114) (v := ?_) (a' := ?_) m52_ rfl rfl (any_of HT_.out (by kernel_rfl)) (fun _ _ _ h => h) (Or.inl ⟨by rfl, ?_⟩) ?_ ?_
            rotate_left
            ·intro w'
             go_simp
             with_reducible rfl
            rotate_left
            ·simp only [Act.put, setIfInBounds_toArray, set_cons_zero, set_cons_succ, i64_w, i32_w]
             rfl
            refine pure_ (i := 11) (N := some 115) (v := ?_) (a' := ?_) m53_ rfl rfl (any_of HT_.out (by kernel_rfl)) (fun _ _ _ h => h) (Or.inl ⟨by rfl, ?_⟩) ?_ ?_
            rotate_left
            ·intro w'
             go_simp
             with_reducible rfl
            rotate_left
            ·simp only [Act.put, setIfInBounds_toArray, set_cons_zero, set_cons_succ, i64_w, i32_w]
             rfl
            refine pure_ (i := 12) (N := some 116) (v := ?_) (a' := ?_) m54_ rfl rfl (any_of HT_.out (by kernel_rfl)) (fun _ _ _ h => h) (Or.inl ⟨by rfl, ?_⟩) ?_ ?_
            rotate_left
            ·intro w'
             go_simp
             with_reducible rfl
            rotate_left
            ·simp only [Act.put, setIfInBounds_toArray, set_cons_zero, set_cons_succ, i64_w, i32_w]
             rfl
            refine pure_ (i := 17) (N := some 121) (v := ?_) (a' := ?_) #[true, true, true, true, true, true, true, true, true, true, true, true, true, false, false, false, false, true, false, false, false, false, false, false, false] rfl rfl (any_of HT_.out (by kernel_rfl)) (fun _ _ _ h => h) (Or.inl ⟨by rfl, ?_⟩) ?_ ?_
            rotate_left
            ·intro w'
             go_simp
             with_reducible rfl
            rotate_left
            ·simp only [Act.put, setIfInBounds_toArray, set_cons_zero, set_cons_succ, i64_w, i32_w]
             rfl
            refine take_ (i := 13) (N := some 117) (v := ?_) (a' := ?_) #[true, true, true, true, true, true, true, true, true, true, true, true, true, true, false, false, false, true, false, false, false, false, false, false, false] rfl rfl (take_ofW HT_.out HW_.out (by kernel_rfl)) (fun _ _ _ h => h) (Or.inl ⟨by rfl, ?_⟩) hHeld ?_ ?_
            rotate_left
            ·rintro w' ⟨s0, s1, s2, s3⟩
             go_simp
             with_reducible rfl
            rotate_left
            ·simp only [Act.put, setIfInBounds_toArray, set_cons_zero, set_cons_succ, i64_w, i32_w]
             rfl
            refine take_ (i := 16) (N := some 120) (v := ?_) (a' := ?_) #[true, true, true, true, true, true, true, true, true, true, true, true, true, true, false, false, true, true, false, false, false, false, false, false, false] rfl rfl (take_ofW HT_.out HW_.out (by kernel_rfl)) (fun _ _ _ h => h) (Or.inl ⟨by rfl, ?_⟩) hHeld ?_ ?_
            rotate_left
            ·rintro w' ⟨s0, s1, s2, s3⟩
             go_simp
             with_reducible rfl
            rotate_left
            ·simp only [Act.put, setIfInBounds_toArray, set_cons_zero, set_cons_succ, i64_w, i32_w]
             rfl
            refine take_ (i := 18) (N := some 122) (v := ?_) (a' := ?_) #[true, true, true, true, true, true, true, true, true, true, true, true, true, true, false, false, true, true, true, false, false, false, false, false, false] rfl rfl (take_ofW HT_.out HW_.out (by kernel_rfl)) (fun _ _ _ h => h) (Or.inl ⟨by rfl, ?_⟩) hHeld ?_ ?_
            rotate_left
            ·rintro w' ⟨s0, s1, s2, s3⟩
             go_simp
             with_reducible rfl
            rotate_left
            ·simp only [Act.put, setIfInBounds_toArray, set_cons_zero, set_cons_succ, i64_w, i32_w]
             rfl
            refine pure_ (i := 19) (N := some 123) (v := ?_) (a' := ?_) #[true, true, true, true, true, true, true, true, true, true, true, true, true, true, false, false, true, true, true, true, false, false, false, false, false] rfl rfl (any_of HT_.out (by kernel_rfl)) (fun _ _ _ h => h) (Or.inl ⟨by rfl, ?_⟩) ?_ ?_
            rotate_left
            ·intro w'
             go_simp
             with_reducible rfl
            rotate_left
            ·simp only [Act.put, setIfInBounds_toArray, set_cons_zero, set_cons_succ, i64_w, i32_w]
             rfl
            (refine one_ (i := 14) (N := some 118) #[true, true, true, true, true, true, true, true, true, true, true, true, true, true, true, false, true, true, true, true, false, false, false, false, false] rfl rfl (one_of HT_.out (by kernel_rfl)) (by decide) (fun K hK => ?_));(refine goes_ Try.func9 (by kernel_rfl) rfl #[.agg #[.int .i64 t141, .int .i64 t142, .int .i64 t143, .slice Ao13 t144.length co13], .int .i64 0] (by rfl) rfl rfl (by (try simp only [List.map_toArray, List.map_cons, List.map_nil]); first | done | rfl | (simp only [List.length_drop, List.length_take]; rfl)) ?_)
            with_reducible refine (net_Out.calls t141 t142 t143 _ _ t144 0 t162 _ ?side1 ?side2 A53.out).mono ?_
            (case side1 => repeat (first | exact (Kd.R_reads' HO_148003.out).2.2 | (with_reducible refine Kd.C_alloc ?_ _) | (with_reducible refine Kd.C_drewN ?_ _) | (with_reducible refine Kd.C_drew ?_)))
            (case side2 => exact (Kd.R_reads' HO_148003.out).2.1)
            (rintro e w56 ⟨v163, rfl, ho0, hb⟩);(refine ⟨_, rfl, ?_⟩);(have n0_ := Aside0.mk (Kd.R_below (by (with_reducible repeat first | apply Kd.R_alloc | apply Kd.R_drewN | apply Kd.R_drew); exact HO_148003.out) hb));(have n1_ := Aside0.mk (Kd.R_lower ho0 (below_size (by repeat (first | (with_reducible first | exact HB.out | apply below_alloc | apply pw_below_drewN | apply below_drew1 | refine below_set ?_ GE147.out) | exact HB.out)))));(have n2_ := Aside0.mk (blk_below (g := gb147) (o := .cells #[.int .i64 t141, .int .i64 t142, .int .i64 t143, .slice Ao13 t144.length co13] 26 (0, 0)) (by (with_reducible repeat first | refine blk_drewN ?_ _ | refine blk_drew ?_ | refine blk_alloc ?_ _); exact BK147.out) hb));(have n3_ := Aside0.mk (below_step (by repeat (first | (with_reducible first | exact HB.out | apply below_alloc | apply pw_below_drewN | apply below_drew1 | refine below_set ?_ GE147.out) | exact HB.out)) hb));(clear HO_148003);(clear BK147);(clear HB);(have HO_148003 := n0_);(have HO164 := n1_);(have BK147 := n2_);(have HB := n3_);(clear n0_ n1_ n2_ n3_);((try clear hb));((try clear hb2));((try clear hk));((try clear hi));((try clear ho0));(obtain ⟨Ao57, co57, eo57⟩ := Kd.R_slice HO164.out);((first | subst eo57 | (injection eo57 with f1_ f2_ f3_; have f4_ := f1_.symm; have f5_ := f3_.symm; clear f1_ f2_ f3_; subst f4_; subst f5_)));(refine hK.out _ _ ⟨(blk_cell BK147.out 0).trans rfl, (blk_cell BK147.out 1).trans rfl, (blk_cell BK147.out 2).trans rfl, (blk_cell BK147.out 3).trans rfl⟩ (fun hHeld => ?_));(clear hK K);(refine norm_ (a' := ?_) ?_ ?_)
            rotate_left
            ·show Act.put _ (some 118) _ = _
             simp only [Act.put, setIfInBounds_toArray, set_cons_zero, set_cons_succ, i64_w, i32_w]
             rfl
            refine pure_ (i := 15) (N := some 119) (v := ?_) (a' := ?_) m55_ rfl rfl (any_of HT_.out (by kernel_rfl)) (fun _ _ _ h => h) (Or.inl ⟨by rfl, ?_⟩) ?_ ?_
            rotate_left
            ·intro w'
             go_simp
             with_reducible rfl
            rotate_left
            ·simp only [Act.put, setIfInBounds_toArray, set_cons_zero, set_cons_succ, i64_w, i32_w]
             rfl
            (refine one_ (i := 20) (N := some 124) m56_ rfl rfl (one_of HT_.out (by kernel_rfl)) (by decide) (fun K hK => ?_));(refine goes_ Try.func10 (by kernel_rfl) rfl #[.agg #[.int .i64 t141, .int .i64 t142, .int .i64 t143, .slice Ao13 t144.length co13], .int .i64 (wrap64 (t141 + 1))] (by rfl) rfl rfl (by (try simp only [List.map_toArray, List.map_cons, List.map_nil]); first | done | rfl | (simp only [List.length_drop, List.length_take]; rfl)) ?_)
            with_reducible refine (net_In.calls t141 t142 t143 _ _ t144 (wrap64 (t141 + 1)) t165 _ ?side1 ?side2 A54.out).mono ?_
            (case side1 => repeat (first | exact (Kd.R_reads' HO_148003.out).2.2 | (with_reducible refine Kd.C_alloc ?_ _) | (with_reducible refine Kd.C_drewN ?_ _) | (with_reducible refine Kd.C_drew ?_)))
            (case side2 => exact (Kd.R_reads' HO_148003.out).2.1)
            (rintro e w58 ⟨v166, rfl, ho0, hb⟩);(refine ⟨_, rfl, ?_⟩);(have n0_ := Aside0.mk (Kd.R_below (by (with_reducible repeat first | apply Kd.R_alloc | apply Kd.R_drewN | apply Kd.R_drew); exact HO_148003.out) hb));(have n1_ := Aside0.mk (Kd.R_elder' (by (with_reducible repeat first | apply Kd.R_alloc | apply Kd.R_drewN | apply Kd.R_drew); exact HO164.out) (Kd.R_base ho0) hb));(have n2_ := Aside0.mk (Kd.R_lower (Kd.R_new' ho0 (Kd.R_lt (by (with_reducible repeat first | apply Kd.R_alloc | apply Kd.R_drewN | apply Kd.R_drew); exact HO164.out))) (below_size (by repeat (first | (with_reducible first | exact HB.out | apply below_alloc | apply pw_below_drewN | apply below_drew1 | refine below_set ?_ GE147.out) | exact HB.out)))));(have n3_ := Aside0.mk (blk_below (g := gb147) (o := .cells #[.int .i64 t141, .int .i64 t142, .int .i64 t143, .slice Ao13 t144.length co13] 26 (0, 0)) (by (with_reducible repeat first | refine blk_drewN ?_ _ | refine blk_drew ?_ | refine blk_alloc ?_ _); exact BK147.out) hb));(have n4_ := Aside0.mk (below_step (by repeat (first | (with_reducible first | exact HB.out | apply below_alloc | apply pw_below_drewN | apply below_drew1 | refine below_set ?_ GE147.out) | exact HB.out)) hb));(clear HO_148003);(clear HO164);(clear BK147);(clear HB);(have HO_148003 := n0_);(have HO164 := n1_);(have HO167 := n2_);(have BK147 := n3_);(have HB := n4_);(clear n0_ n1_ n2_ n3_ n4_);((try clear hb));((try clear hb2));((try clear hk));((try clear hi));((try clear ho0));(obtain ⟨Ao59, co59, eo59⟩ := Kd.R_slice HO167.out);((first | subst eo59 | (injection eo59 with f1_ f2_ f3_; have f4_ := f1_.symm; have f5_ := f3_.symm; clear f1_ f2_ f3_; subst f4_; subst f5_)));(refine hK.out _ _ ⟨(blk_cell BK147.out 0).trans rfl, (blk_cell BK147.out 1).trans rfl, (blk_cell BK147.out 2).trans rfl, (blk_cell BK147.out 3).trans rfl⟩ (fun hHeld => ?_));(clear hK K);(refine norm_ (a' := ?_) ?_ ?_)
            rotate_left
            ·show Act.put _ (some 124) _ = _
             simp only [Act.put, setIfInBounds_toArray, set_cons_zero, set_cons_succ, i64_w, i32_w]
             rfl
            refine pure_ (i := 21) (N := some 125) (v := ?_) (a' := ?_) m57_ rfl rfl (any_of HT_.out (by kernel_rfl)) (fun _ _ _ h => h) (Or.inl ⟨by rfl, ?_⟩) ?_ ?_
            rotate_left
            ·intro w'
             go_simp
             with_reducible rfl
            rotate_left
            ·simp only [Act.put, setIfInBounds_toArray, set_cons_zero, set_cons_succ, i64_w, i32_w]
             rfl
            refine pure_ (i := 22) (N := some 126) (v := ?_) (a' := ?_) m58_ rfl rfl (any_of HT_.out (by kernel_rfl)) (fun _ _ _ h => h) (Or.inl ⟨by rfl, ?_⟩) ?_ ?_
            rotate_left
            ·intro w'
             go_simp
             with_reducible rfl
            rotate_left
            ·simp only [Act.put, setIfInBounds_toArray, set_cons_zero, set_cons_succ, i64_w, i32_w]
             rfl
            refine pure_ (i := 23) (N := some 127) (v := ?_) (a' := ?_) m59_ rfl rfl (any_of HT_.out (by kernel_rfl)) (fun _ _ _ h => h) (Or.inl ⟨by rfl, ?_⟩) ?_ ?_
            rotate_left
            ·intro w'
             go_simp
             with_reducible rfl
            rotate_left
            ·simp only [Act.put, setIfInBounds_toArray, set_cons_zero, set_cons_succ, i64_w, i32_w]
             rfl
            refine pure_ (i := 24) (N := some 128) (v := ?_) (a' := ?_) m60_ rfl rfl (any_of HT_.out (by kernel_rfl)) (fun _ _ _ h => h) (Or.inl ⟨by rfl, ?_⟩) ?_ ?_
            rotate_left
            ·intro w'
             go_simp
             with_reducible rfl
            rotate_left
            ·simp only [Act.put, setIfInBounds_toArray, set_cons_zero, set_cons_succ, i64_w, i32_w]
             rfl
            refine done_ (done_of HT_.out (by kernel_rfl)) ?_
            try go_wp2
            go_meet
            case rel => exact ⟨_, (((wrap64 ((t162.length : Int) + (t165.length : Int))) != 0)), (by first | rfl | (simp; done) | (simp [*]; done)), H', ⟨by have := HJ7.out; have := HK2.out; first | omega | exact Nat.le_refl _⟩, ⟨by (with_reducible repeat first | apply Kd.R_alloc | apply Kd.R_drewN | apply Kd.R_drew); exact HO_148003.out⟩, ⟨by (with_reducible repeat first | refine blk_drewN ?_ _ | refine blk_drew ?_ | refine blk_alloc ?_ _); exact BK147.out⟩, ⟨by repeat (first | (with_reducible first | exact HB.out | apply below_alloc | apply pw_below_drewN | apply below_drew1 | refine below_set ?_ GE147.out) | exact HB.out)⟩⟩
          ·(rw [if_neg c52] at H);(have c52b0 : (x12_2 == (t144.length : Int)) = false := beq_eq_false_iff_ne.mpr c52);(have c52b1 : (x12_2 != (t144.length : Int)) = true := bne_iff_ne.mpr c52)
           as_aux_lemma =>
            (have H' := Aside0.mk H);(clear H)
            try go_wp2
            (have n0_ := Aside0.mk (Kd.R_drew HO_148003.out));(have n1_ := Aside0.mk (blk_drew BK147.out));(have n2_ := Aside0.mk (below_drew1 HB.out));(clear HO_148003);(clear BK147);(clear HB);(have HO_148003 := n0_);(have BK147 := n1_);(have HB := n2_);(clear n0_ n1_ n2_);(refine start_ (n := 25) (S := fun w' => w'.cell? ⟨gb147, 0, none⟩ = some (.int .i64 t141) ∧ w'.cell? ⟨gb147, 1, none⟩ = some (.int .i64 t142) ∧ w'.cell? ⟨gb147, 2, none⟩ = some (.int .i64 t143) ∧ w'.cell? ⟨gb147, 3, none⟩ = some (.slice Ao13 t144.length co13)) (ds := []) m41_ (by kernel_rfl) rfl rfl ⟨(blk_cell BK147.out 0).trans rfl, (blk_cell BK147.out 1).trans rfl, (blk_cell BK147.out 2).trans rfl, (blk_cell BK147.out 3).trans rfl⟩ (fun hHeld => ?_); refine with_tabW racewaylaw3_NetParts.tab20 racewaylaw3_NetParts.bits20 (fun HT_ HW_ => ?_));(generalize wr.drew = w60 at HO_148003 BK147 HB hHeld ⊢);(refine pure_ (i := 0) (N := some 104) (v := ?_) (a' := ?_) m42_ rfl rfl (any_of HT_.out (by kernel_rfl)) (fun _ _ _ h => h) (Or.inl ⟨by rfl, ?_⟩) ?_ ?_)
            rotate_left
            ·intro w'
             go_simp
             with_reducible rfl
            rotate_left
            ·simp only [Act.put, setIfInBounds_toArray, set_cons_zero, set_cons_succ, i64_w, i32_w]
             rfl
            refine pure_ (i := 1) (N := some 105) (v := ?_) (a' := ?_) m43_ rfl rfl (any_of HT_.out (by kernel_rfl)) (fun _ _ _ h => h) (Or.inl ⟨by rfl, ?_⟩) ?_ ?_
            rotate_left
            ·intro w'
             go_simp
             with_reducible rfl
            rotate_left
            ·simp only [Act.put, setIfInBounds_toArray, set_cons_zero, set_cons_succ, i64_w, i32_w]
             rfl
            refine take_ (i := 2) (N := some 106) (v := ?_) (a' := ?_) m44_ rfl rfl (take_ofW HT_.out HW_.out (by kernel_rfl)) (fun _ _ _ h => h) (Or.inl ⟨by rfl, ?_⟩) hHeld ?_ ?_
            rotate_left
            ·rintro w' ⟨s0, s1, s2, s3⟩
             go_simp
             with_reducible rfl
            rotate_left
            ·simp only [Act.put, setIfInBounds_toArray, set_cons_zero, set_cons_succ, i64_w, i32_w]
             rfl
            refine pure_ (i := 3) (N := some 107) (v := ?_) (a' := ?_) m45_ rfl rfl (any_of HT_.out (by kernel_rfl)) (fun _ _ _ h => h) (Or.inl ⟨by rfl, ?_⟩) ?_ ?_
            rotate_left
            ·intro w'
             go_simp
             with_reducible rfl
            rotate_left
            ·simp only [Act.put, setIfInBounds_toArray, set_cons_zero, set_cons_succ, i64_w, i32_w]
             rfl
            refine pure_ (i := 4) (N := some 108) (v := ?_) (a' := ?_) m46_ rfl rfl (any_of HT_.out (by kernel_rfl)) (fun _ _ _ h => h) (Or.inl ⟨by rfl, ?_⟩) ?_ ?_
            rotate_left
            ·intro w'
             go_simp
             with_reducible rfl
            rotate_left
            ·simp only [Act.put, setIfInBounds_toArray, set_cons_zero, set_cons_succ, i64_w, i32_w]
             rfl
            refine pure_ (i := 5) (N := some 109) (v := ?_) (a' := ?_) m47_ rfl rfl (any_of HT_.out (by kernel_rfl)) (fun _ _ _ h => h) (Or.inl ⟨by rfl, ?_⟩) ?_ ?_
            rotate_left
            ·intro w'
             go_simp
             with_reducible rfl
            rotate_left
            ·simp only [Act.put, setIfInBounds_toArray, set_cons_zero, set_cons_succ, i64_w, i32_w]
             rfl
            refine pure_ (i := 6) (N := some 110) (v := ?_) (a' := ?_) m48_ rfl rfl (any_of HT_.out (by kernel_rfl)) (fun _ _ _ h => h) (Or.inl ⟨by rfl, ?_⟩) ?_ ?_
            rotate_left
            ·intro w'
             go_simp
             with_reducible rfl
            rotate_left
            ·simp only [Act.put, setIfInBounds_toArray, set_cons_zero, set_cons_succ, i64_w, i32_w]
             rfl
            refine pure_ (i := 7) (N := some 111) (v := ?_) (a' := ?_) m49_ rfl rfl (any_of HT_.out (by kernel_rfl)) (fun _ _ _ h => h) (Or.inl ⟨by rfl, ?_⟩) ?_ ?_
            rotate_left
            ·intro w'
             go_simp
             with_reducible rfl
            rotate_left
            ·simp only [Act.put, setIfInBounds_toArray, set_cons_zero, set_cons_succ, i64_w, i32_w]
             rfl
            refine take_ (i := 8) (N := some 112) (v := ?_) (a' := ?_) m50_ rfl rfl (take_ofW HT_.out HW_.out (by kernel_rfl)) (fun _ _ _ h => h) (Or.inl ⟨by rfl, ?_⟩) hHeld ?_ ?_
            rotate_left
            ·rintro w' ⟨s0, s1, s2, s3⟩
             go_simp
             with_reducible rfl
            rotate_left
            ·simp only [Act.put, setIfInBounds_toArray, set_cons_zero, set_cons_succ, i64_w, i32_w]
             rfl
            refine pure_ (i := 9) (N := some 113) (v := ?_) (a' := ?_) m51_ rfl rfl (any_of HT_.out (by kernel_rfl)) (fun _ _ _ h => h) (Or.inl ⟨by rfl, ?_⟩) ?_ ?_
            rotate_left
            ·intro w'
             go_simp
             with_reducible rfl
            rotate_left
            ·simp only [Act.put, setIfInBounds_toArray, set_cons_zero, set_cons_succ, i64_w, i32_w]
             rfl
            refine pure_ (i := 10) (N := some 114) (v := ?_) (a' := ?_) m52_ rfl rfl (any_of HT_.out (by kernel_rfl)) (fun _ _ _ h => h) (Or.inl ⟨by rfl, ?_⟩) ?_ ?_
            rotate_left
            ·intro w'
             go_simp
             with_reducible rfl
            rotate_left
            ·simp only [Act.put, setIfInBounds_toArray, set_cons_zero, set_cons_succ, i64_w, i32_w]
             rfl
            refine pure_ (i := 11) (N := some 115) (v := ?_) (a' := ?_) m53_ rfl rfl (any_of HT_.out (by kernel_rfl)) (fun _ _ _ h => h) (Or.inl ⟨by rfl, ?_⟩) ?_ ?_
            rotate_left
            ·intro w'
             go_simp
             with_reducible rfl
            rotate_left
            ·simp only [Act.put, setIfInBounds_toArray, set_cons_zero, set_cons_succ, i64_w, i32_w]
             rfl
            refine pure_ (i := 12) (N := some 116) (v := ?_) (a' := ?_) m54_ rfl rfl (any_of HT_.out (by kernel_rfl)) (fun _ _ _ h => h) (Or.inl ⟨by rfl, ?_⟩) ?_ ?_
            rotate_left
            ·intro w'
             go_simp
             with_reducible rfl
            rotate_left
            ·simp only [Act.put, setIfInBounds_toArray, set_cons_zero, set_cons_succ, i64_w, i32_w]
             rfl
            refine pure_ (i := 13) (N := some 117) (v := undef) (a' := ?_) m61_ rfl rfl (any_of HT_.out (by kernel_rfl)) (fun _ _ _ h => h) (Or.inr ⟨by rfl, rfl⟩) ?_ ?_
            rotate_left
            ·simp only [Act.put, setIfInBounds_toArray, set_cons_zero, set_cons_succ, i64_w, i32_w]
             rfl
            refine pure_ (i := 14) (N := some 118) (v := undef) (a' := ?_) m62_ rfl rfl (any_of HT_.out (by kernel_rfl)) (fun _ _ _ h => h) (Or.inr ⟨by rfl, rfl⟩) ?_ ?_
            rotate_left
            ·simp only [Act.put, setIfInBounds_toArray, set_cons_zero, set_cons_succ, i64_w, i32_w]
             rfl
            refine pure_ (i := 15) (N := some 119) (v := undef) (a' := ?_) m63_ rfl rfl (any_of HT_.out (by kernel_rfl)) (fun _ _ _ h => h) (Or.inr ⟨by rfl, rfl⟩) ?_ ?_
            rotate_left
            ·simp only [Act.put, setIfInBounds_toArray, set_cons_zero, set_cons_succ, i64_w, i32_w]
             rfl
            refine pure_ (i := 16) (N := some 120) (v := undef) (a' := ?_) m64_ rfl rfl (any_of HT_.out (by kernel_rfl)) (fun _ _ _ h => h) (Or.inr ⟨by rfl, rfl⟩) ?_ ?_
            rotate_left
            ·simp only [Act.put, setIfInBounds_toArray, set_cons_zero, set_cons_succ, i64_w, i32_w]
             rfl
            refine pure_ (i := 17) (N := some 121) (v := undef) (a' := ?_) m65_ rfl rfl (any_of HT_.out (by kernel_rfl)) (fun _ _ _ h => h) (Or.inr ⟨by rfl, rfl⟩) ?_ ?_
            rotate_left
            ·simp only [Act.put, setIfInBounds_toArray, set_cons_zero, set_cons_succ, i64_w, i32_w]
             rfl
            refine pure_ (i := 18) (N := some 122) (v := undef) (a' := ?_) m66_ rfl rfl (any_of HT_.out (by kernel_rfl)) (fun _ _ _ h => h) (Or.inr ⟨by rfl, rfl⟩) ?_ ?_
            rotate_left
            ·simp only [Act.put, setIfInBounds_toArray, set_cons_zero, set_cons_succ, i64_w, i32_w]
             rfl
            refine pure_ (i := 19) (N := some 123) (v := undef) (a' := ?_) m55_ rfl rfl (any_of HT_.out (by kernel_rfl)) (fun _ _ _ h => h) (Or.inr ⟨by rfl, rfl⟩) ?_ ?_
            rotate_left
            ·simp only [Act.put, setIfInBounds_toArray, set_cons_zero, set_cons_succ, i64_w, i32_w]
             rfl
            refine pure_ (i := 20) (N := some 124) (v := undef) (a' := ?_) m56_ rfl rfl (any_of HT_.out (by kernel_rfl)) (fun _ _ _ h => h) (Or.inr ⟨by rfl, rfl⟩) ?_ ?_
            rotate_left
            ·simp only [Act.put, setIfInBounds_toArray, set_cons_zero, set_cons_succ, i64_w, i32_w]
             rfl
            refine pure_ (i := 21) (N := some 125) (v := undef) (a' := ?_) m57_ rfl rfl (any_of HT_.out (by kernel_rfl)) (fun _ _ _ h => h) (Or.inr ⟨by rfl, rfl⟩) ?_ ?_
            rotate_left
            ·simp only [Act.put, setIfInBounds_toArray, set_cons_zero, set_cons_succ, i64_w, i32_w]
             rfl
            refine pure_ (i := 22) (N := some 126) (v := undef) (a' := ?_) m58_ rfl rfl (any_of HT_.out (by kernel_rfl)) (fun _ _ _ h => h) (Or.inr ⟨by rfl, rfl⟩) ?_ ?_
            rotate_left
            ·simp only [Act.put, setIfInBounds_toArray, set_cons_zero, set_cons_succ, i64_w, i32_w]
             rfl
            refine pure_ (i := 23) (N := some 127) (v := undef) (a' := ?_) m59_ rfl rfl (any_of HT_.out (by kernel_rfl)) (fun _ _ _ h => h) (Or.inr ⟨by rfl, rfl⟩) ?_ ?_
            rotate_left
            ·simp only [Act.put, setIfInBounds_toArray, set_cons_zero, set_cons_succ, i64_w, i32_w]
             rfl
            refine pure_ (i := 24) (N := some 128) (v := ?_) (a' := ?_) m60_ rfl rfl (any_of HT_.out (by kernel_rfl)) (fun _ _ _ h => h) (Or.inl ⟨by rfl, ?_⟩) ?_ ?_
            rotate_left
            ·intro w'
             go_simp
             with_reducible rfl
            rotate_left
            ·simp only [Act.put, setIfInBounds_toArray, set_cons_zero, set_cons_succ, i64_w, i32_w]
             rfl
            refine done_ (done_of HT_.out (by kernel_rfl)) ?_
            try go_wp2
            go_meet
            case rel => exact ⟨_, (true), (by first | rfl | (simp; done) | (simp [*]; done)), H', ⟨by have := HJ7.out; have := HK2.out; first | omega | exact Nat.le_refl _⟩, ⟨by (with_reducible repeat first | apply Kd.R_alloc | apply Kd.R_drewN | apply Kd.R_drew); exact HO_148003.out⟩, ⟨by (with_reducible repeat first | refine blk_drewN ?_ _ | refine blk_drew ?_ | refine blk_alloc ?_ _); exact BK147.out⟩, ⟨by repeat (first | (with_reducible first | exact HB.out | apply below_alloc | apply pw_below_drewN | apply below_drew1 | refine below_set ?_ GE147.out) | exact HB.out)⟩⟩
         ·(rw [if_neg c51] at H);(have c51b0 : (x11_2 == (t144.length : Int)) = false := beq_eq_false_iff_ne.mpr c51);(have c51b1 : (x11_2 != (t144.length : Int)) = true := bne_iff_ne.mpr c51);((first | rw [c51b0] | (simp only [i64_w, i32_w]; rw [c51b0]) | skip))
          as_aux_lemma =>
           (have H' := Aside0.mk H);(clear H)
           try go_wp2
           (have n0_ := Aside0.mk (Kd.R_drew HO_148003.out));(have n1_ := Aside0.mk (blk_drew BK147.out));(have n2_ := Aside0.mk (below_drew1 HB.out));(clear HO_148003);(clear BK147);(clear HB);(have HO_148003 := n0_);(have BK147 := n1_);(have HB := n2_);(clear n0_ n1_ n2_);(refine start_ (n := 25) (S := fun w' => w'.cell? ⟨gb147, 0, none⟩ = some (.int .i64 t141) ∧ w'.cell? ⟨gb147, 1, none⟩ = some (.int .i64 t142) ∧ w'.cell? ⟨gb147, 2, none⟩ = some (.int .i64 t143) ∧ w'.cell? ⟨gb147, 3, none⟩ = some (.slice Ao13 t144.length co13)) (ds := []) m41_ (by kernel_rfl) rfl rfl ⟨(blk_cell BK147.out 0).trans rfl, (blk_cell BK147.out 1).trans rfl, (blk_cell BK147.out 2).trans rfl, (blk_cell BK147.out 3).trans rfl⟩ (fun hHeld => ?_); refine with_tabW racewaylaw3_NetParts.tab20 racewaylaw3_NetParts.bits20 (fun HT_ HW_ => ?_));(generalize wr.drew = w61 at HO_148003 BK147 HB hHeld ⊢);(refine pure_ (i := 0) (N := some 104) (v := ?_) (a' := ?_) m42_ rfl rfl (any_of HT_.out (by kernel_rfl)) (fun _ _ _ h => h) (Or.inl ⟨by rfl, ?_⟩) ?_ ?_)
           rotate_left
           ·intro w'
            go_simp
            with_reducible rfl
           rotate_left
           ·simp only [Act.put, setIfInBounds_toArray, set_cons_zero, set_cons_succ, i64_w, i32_w]
            rfl
           refine pure_ (i := 1) (N := some 105) (v := ?_) (a' := ?_) m43_ rfl rfl (any_of HT_.out (by kernel_rfl)) (fun _ _ _ h => h) (Or.inl ⟨by rfl, ?_⟩) ?_ ?_
           rotate_left
           ·intro w'
            go_simp
            with_reducible rfl
           rotate_left
           ·simp only [Act.put, setIfInBounds_toArray, set_cons_zero, set_cons_succ, i64_w, i32_w]
            rfl
           refine take_ (i := 2) (N := some 106) (v := ?_) (a' := ?_) m44_ rfl rfl (take_ofW HT_.out HW_.out (by kernel_rfl)) (fun _ _ _ h => h) (Or.inl ⟨by rfl, ?_⟩) hHeld ?_ ?_
           rotate_left
           ·rintro w' ⟨s0, s1, s2, s3⟩
            go_simp
            with_reducible rfl
           rotate_left
           ·simp only [Act.put, setIfInBounds_toArray, set_cons_zero, set_cons_succ, i64_w, i32_w]
            rfl
           refine pure_ (i := 3) (N := some 107) (v := ?_) (a' := ?_) m45_ rfl rfl (any_of HT_.out (by kernel_rfl)) (fun _ _ _ h => h) (Or.inl ⟨by rfl, ?_⟩) ?_ ?_
           rotate_left
           ·intro w'
            go_simp
            with_reducible rfl
           rotate_left
           ·simp only [Act.put, setIfInBounds_toArray, set_cons_zero, set_cons_succ, i64_w, i32_w]
            rfl
           refine pure_ (i := 4) (N := some 108) (v := ?_) (a' := ?_) m46_ rfl rfl (any_of HT_.out (by kernel_rfl)) (fun _ _ _ h => h) (Or.inl ⟨by rfl, ?_⟩) ?_ ?_
           rotate_left
           ·intro w'
            go_simp
            with_reducible rfl
           rotate_left
           ·simp only [Act.put, setIfInBounds_toArray, set_cons_zero, set_cons_succ, i64_w, i32_w]
            rfl
           refine pure_ (i := 5) (N := some 109) (v := ?_) (a' := ?_) m47_ rfl rfl (any_of HT_.out (by kernel_rfl)) (fun _ _ _ h => h) (Or.inl ⟨by rfl, ?_⟩) ?_ ?_
           rotate_left
           ·intro w'
            go_simp
            with_reducible rfl
           rotate_left
           ·simp only [Act.put, setIfInBounds_toArray, set_cons_zero, set_cons_succ, i64_w, i32_w]
            rfl
           refine pure_ (i := 6) (N := some 110) (v := undef) (a' := ?_) m48_ rfl rfl (any_of HT_.out (by kernel_rfl)) (fun _ _ _ h => h) (Or.inr ⟨by rfl, rfl⟩) ?_ ?_
           rotate_left
           ·simp only [Act.put, setIfInBounds_toArray, set_cons_zero, set_cons_succ, i64_w, i32_w]
            rfl
           refine pure_ (i := 7) (N := some 111) (v := undef) (a' := ?_) m49_ rfl rfl (any_of HT_.out (by kernel_rfl)) (fun _ _ _ h => h) (Or.inr ⟨by rfl, rfl⟩) ?_ ?_
           rotate_left
           ·simp only [Act.put, setIfInBounds_toArray, set_cons_zero, set_cons_succ, i64_w, i32_w]
            rfl
           refine pure_ (i := 8) (N := some 112) (v := undef) (a' := ?_) m50_ rfl rfl (any_of HT_.out (by kernel_rfl)) (fun _ _ _ h => h) (Or.inr ⟨by rfl, rfl⟩) ?_ ?_
           rotate_left
           ·simp only [Act.put, setIfInBounds_toArray, set_cons_zero, set_cons_succ, i64_w, i32_w]
            rfl
           refine pure_ (i := 9) (N := some 113) (v := undef) (a' := ?_) m51_ rfl rfl (any_of HT_.out (by kernel_rfl)) (fun _ _ _ h => h) (Or.inr ⟨by rfl, rfl⟩) ?_ ?_
           rotate_left
           ·simp only [Act.put, setIfInBounds_toArray, set_cons_zero, set_cons_succ, i64_w, i32_w]
            rfl
           refine pure_ (i := 10) (N := some 114) (v := undef) (a' := ?_) m52_ rfl rfl (any_of HT_.out (by kernel_rfl)) (fun _ _ _ h => h) (Or.inr ⟨by rfl, rfl⟩) ?_ ?_
           rotate_left
           ·simp only [Act.put, setIfInBounds_toArray, set_cons_zero, set_cons_succ, i64_w, i32_w]
            rfl
           refine pure_ (i := 11) (N := some 115) (v := ?_) (a' := ?_) m53_ rfl rfl (any_of HT_.out (by kernel_rfl)) (fun _ _ _ h => h) (Or.inl ⟨by rfl, ?_⟩) ?_ ?_
           rotate_left
           ·intro w'
            go_simp
            with_reducible rfl
           rotate_left
           ·simp only [Act.put, setIfInBounds_toArray, set_cons_zero, set_cons_succ, i64_w, i32_w]
            rfl
           refine pure_ (i := 12) (N := some 116) (v := ?_) (a' := ?_) m54_ rfl rfl (any_of HT_.out (by kernel_rfl)) (fun _ _ _ h => h) (Or.inl ⟨by rfl, ?_⟩) ?_ ?_
           rotate_left
           ·intro w'
            go_simp
            with_reducible rfl
           rotate_left
           ·simp only [Act.put, setIfInBounds_toArray, set_cons_zero, set_cons_succ, i64_w, i32_w]
            rfl
           refine pure_ (i := 13) (N := some 117) (v := undef) (a' := ?_) m61_ rfl rfl (any_of HT_.out (by kernel_rfl)) (fun _ _ _ h => h) (Or.inr ⟨by rfl, rfl⟩) ?_ ?_
           rotate_left
           ·simp only [Act.put, setIfInBounds_toArray, set_cons_zero, set_cons_succ, i64_w, i32_w]
            rfl
           refine pure_ (i := 14) (N := some 118) (v := undef) (a' := ?_) m62_ rfl rfl (any_of HT_.out (by kernel_rfl)) (fun _ _ _ h => h) (Or.inr ⟨by rfl, rfl⟩) ?_ ?_
           rotate_left
           ·simp only [Act.put, setIfInBounds_toArray, set_cons_zero, set_cons_succ, i64_w, i32_w]
            rfl
           refine pure_ (i := 15) (N := some 119) (v := undef) (a' := ?_) m63_ rfl rfl (any_of HT_.out (by kernel_rfl)) (fun _ _ _ h => h) (Or.inr ⟨by rfl, rfl⟩) ?_ ?_
           rotate_left
           ·simp only [Act.put, setIfInBounds_toArray, set_cons_zero, set_cons_succ, i64_w, i32_w]
            rfl
           refine pure_ (i := 16) (N := some 120) (v := undef) (a' := ?_) m64_ rfl rfl (any_of HT_.out (by kernel_rfl)) (fun _ _ _ h => h) (Or.inr ⟨by rfl, rfl⟩) ?_ ?_
           rotate_left
           ·simp only [Act.put, setIfInBounds_toArray, set_cons_zero, set_cons_succ, i64_w, i32_w]
            rfl
           refine pure_ (i := 17) (N := some 121) (v := undef) (a' := ?_) m65_ rfl rfl (any_of HT_.out (by kernel_rfl)) (fun _ _ _ h => h) (Or.inr ⟨by rfl, rfl⟩) ?_ ?_
           rotate_left
           ·simp only [Act.put, setIfInBounds_toArray, set_cons_zero, set_cons_succ, i64_w, i32_w]
            rfl
           refine pure_ (i := 18) (N := some 122) (v := undef) (a' := ?_) m66_ rfl rfl (any_of HT_.out (by kernel_rfl)) (fun _ _ _ h => h) (Or.inr ⟨by rfl, rfl⟩) ?_ ?_
           rotate_left
           ·simp only [Act.put, setIfInBounds_toArray, set_cons_zero, set_cons_succ, i64_w, i32_w]
            rfl
           refine pure_ (i := 19) (N := some 123) (v := undef) (a' := ?_) m55_ rfl rfl (any_of HT_.out (by kernel_rfl)) (fun _ _ _ h => h) (Or.inr ⟨by rfl, rfl⟩) ?_ ?_
           rotate_left
           ·simp only [Act.put, setIfInBounds_toArray, set_cons_zero, set_cons_succ, i64_w, i32_w]
            rfl
           refine pure_ (i := 20) (N := some 124) (v := undef) (a' := ?_) m56_ rfl rfl (any_of HT_.out (by kernel_rfl)) (fun _ _ _ h => h) (Or.inr ⟨by rfl, rfl⟩) ?_ ?_
           rotate_left
           ·simp only [Act.put, setIfInBounds_toArray, set_cons_zero, set_cons_succ, i64_w, i32_w]
            rfl
           refine pure_ (i := 21) (N := some 125) (v := undef) (a' := ?_) m57_ rfl rfl (any_of HT_.out (by kernel_rfl)) (fun _ _ _ h => h) (Or.inr ⟨by rfl, rfl⟩) ?_ ?_
           rotate_left
           ·simp only [Act.put, setIfInBounds_toArray, set_cons_zero, set_cons_succ, i64_w, i32_w]
            rfl
           refine pure_ (i := 22) (N := some 126) (v := undef) (a' := ?_) m58_ rfl rfl (any_of HT_.out (by kernel_rfl)) (fun _ _ _ h => h) (Or.inr ⟨by rfl, rfl⟩) ?_ ?_
           rotate_left
           ·simp only [Act.put, setIfInBounds_toArray, set_cons_zero, set_cons_succ, i64_w, i32_w]
            rfl
           refine pure_ (i := 23) (N := some 127) (v := undef) (a' := ?_) m59_ rfl rfl (any_of HT_.out (by kernel_rfl)) (fun _ _ _ h => h) (Or.inr ⟨by rfl, rfl⟩) ?_ ?_
           rotate_left
           ·simp only [Act.put, setIfInBounds_toArray, set_cons_zero, set_cons_succ, i64_w, i32_w]
            rfl
           refine pure_ (i := 24) (N := some 128) (v := ?_) (a' := ?_) m60_ rfl rfl (any_of HT_.out (by kernel_rfl)) (fun _ _ _ h => h) (Or.inl ⟨by rfl, ?_⟩) ?_ ?_
           rotate_left
           ·intro w'
            go_simp
            with_reducible rfl
           rotate_left
           ·simp only [Act.put, setIfInBounds_toArray, set_cons_zero, set_cons_succ, i64_w, i32_w]
            rfl
           refine done_ (done_of HT_.out (by kernel_rfl)) ?_
           try go_wp2
           go_meet
           case rel => exact ⟨_, (true), (by first | rfl | (simp; done) | (simp [*]; done)), H', ⟨by have := HJ7.out; have := HK2.out; first | omega | exact Nat.le_refl _⟩, ⟨by (with_reducible repeat first | apply Kd.R_alloc | apply Kd.R_drewN | apply Kd.R_drew); exact HO_148003.out⟩, ⟨by (with_reducible repeat first | refine blk_drewN ?_ _ | refine blk_drew ?_ | refine blk_alloc ?_ _); exact BK147.out⟩, ⟨by repeat (first | (with_reducible first | exact HB.out | apply below_alloc | apply pw_below_drewN | apply below_drew1 | refine below_set ?_ GE147.out) | exact HB.out)⟩⟩
        case rest =>
         clear HC49
         try clear c1
         try clear p2
         try clear c5
         try clear p6
         try clear c9
         try clear c10
         try clear c51
         try clear c51b0
         try clear c51b1
         try clear c52
         try clear c52b0
         try clear c52b1
         obtain ⟨kq, x128_48, rfl, HA, HJ48, HO_148003, BK147, HB⟩ := hcut
         cases kq with
         | zero => exact absurd HA.out (by simp [racewaylaw3_NetParts.j3])
         | succ kj48 =>
          (have H := HA.out);(clear HA);(simp only [racewaylaw3_NetParts.j3] at H)
          by_cases c62 : x128_48 = true
          ·(subst c62);(have H1 : (some false) = some r := by rw [if_pos rfl] at H; exact H);(clear H);(have H := H1);(clear H1);(exact absurd ((Option.some.inj H).trans hrT_.out) (by simp))
          ·(replace c62 := Bool.eq_false_iff.mpr c62);(subst c62);(have H1 : ((net_Copy.f t141 t142 t143 t144).bind fun bt168 => (if bt168.2.2.2.length < 5864062014805 then ((some (bt168.2.2.2 ++ [(⟨t143, t142, 0⟩ : S34)] : List (S34))).bind fun y175 => ((net_Copy.f t141 t142 t143 t144).bind fun bt178 => (if (l2.length : Int) > 0 then ((racewaylaw3_pick.f a3 (bt178.2.2.2.length : Int)).bind fun t185 => ((some (([] : List (S34)) : List (S34))).bind fun y186 => (if 0 ≤ t185 then (if t185 ≤ (bt178.2.2.2.length : Int) then ((some (bt178.2.2.2.take (t185 : Int).toNat : List (S34))).bind fun y189 => (if y186.length + y189.length < 5864062014805 then ((some (y186 ++ y189 : List (S34))).bind fun y193 => (if 0 ≤ (wrap64 (t185 + 1)) then (if (wrap64 (t185 + 1)) ≤ (bt178.2.2.2.length : Int) then ((some (bt178.2.2.2.drop ((wrap64 (t185 + 1)) : Int).toNat : List (S34))).bind fun y196 => (if y193.length + y196.length < 5864062014805 then ((net_Check.f bt168.1 bt168.2.1 bt168.2.2.1 y175).bind fun t203 => (if t203 = 0 then ((net_Check.f bt178.1 bt178.2.1 bt178.2.2.1 (y193 ++ y196)).bind fun t204 => (if t204 = 0 then ((net_Same.f bt168.1 bt168.2.1 bt168.2.2.1 y175 t141 t142 t143 t144).bind fun t205 => (some (!t205))) else (some false))) else (some false))) else (none))) else (none)) else (none))) else (none))) else (none)) else (none)))) else ((net_Check.f bt168.1 bt168.2.1 bt168.2.2.1 y175).bind fun t206 => (if t206 = 0 then ((net_Check.f bt178.1 bt178.2.1 bt178.2.2.1 bt178.2.2.2).bind fun t207 => (if t207 = 0 then ((net_Same.f bt168.1 bt168.2.1 bt168.2.2.1 y175 t141 t142 t143 t144).bind fun t208 => (some (!t208))) else (some false))) else (some false)))))) else (none))) = some r := by rw [if_neg (show ¬ (false = true) by decide)] at H; exact H);(clear H);(have H := H1);(clear H1);(replace H := Option.bind_eq_some_iff.mp H);(obtain ⟨⟨t168, t169, t170, t171⟩, A630, H⟩ := H);(replace H : (if t171.length < 5864062014805 then ((some (t171 ++ [(⟨t143, t142, 0⟩ : S34)] : List (S34))).bind fun y175 => ((net_Copy.f t141 t142 t143 t144).bind fun bt178 => (if (l2.length : Int) > 0 then ((racewaylaw3_pick.f a3 (bt178.2.2.2.length : Int)).bind fun t185 => ((some (([] : List (S34)) : List (S34))).bind fun y186 => (if 0 ≤ t185 then (if t185 ≤ (bt178.2.2.2.length : Int) then ((some (bt178.2.2.2.take (t185 : Int).toNat : List (S34))).bind fun y189 => (if y186.length + y189.length < 5864062014805 then ((some (y186 ++ y189 : List (S34))).bind fun y193 => (if 0 ≤ (wrap64 (t185 + 1)) then (if (wrap64 (t185 + 1)) ≤ (bt178.2.2.2.length : Int) then ((some (bt178.2.2.2.drop ((wrap64 (t185 + 1)) : Int).toNat : List (S34))).bind fun y196 => (if y193.length + y196.length < 5864062014805 then ((net_Check.f t168 t169 t170 y175).bind fun t203 => (if t203 = 0 then ((net_Check.f bt178.1 bt178.2.1 bt178.2.2.1 (y193 ++ y196)).bind fun t204 => (if t204 = 0 then ((net_Same.f t168 t169 t170 y175 t141 t142 t143 t144).bind fun t205 => (some (!t205))) else (some false))) else (some false))) else (none))) else (none)) else (none))) else (none))) else (none)) else (none)))) else ((net_Check.f t168 t169 t170 y175).bind fun t206 => (if t206 = 0 then ((net_Check.f bt178.1 bt178.2.1 bt178.2.2.1 bt178.2.2.2).bind fun t207 => (if t207 = 0 then ((net_Same.f t168 t169 t170 y175 t141 t142 t143 t144).bind fun t208 => (some (!t208))) else (some false))) else (some false)))))) else (none)) = some r := H);(have A63 := Aside0.mk A630);(clear A630)
           by_cases c64 : t171.length < 5864062014805
           ·(rw [if_pos c64] at H);(have LMc64 := Aside0.mk c64);(clear c64);(obtain ⟨y175, hy175⟩ : ∃ y_ : List (S34), y_ = (t171 ++ [(⟨t143, t142, 0⟩ : S34)]) := ⟨_, rfl⟩);(replace H : ((net_Copy.f t141 t142 t143 t144).bind fun bt178 => (if (l2.length : Int) > 0 then ((racewaylaw3_pick.f a3 (bt178.2.2.2.length : Int)).bind fun t185 => ((some (([] : List (S34)) : List (S34))).bind fun y186 => (if 0 ≤ t185 then (if t185 ≤ (bt178.2.2.2.length : Int) then ((some (bt178.2.2.2.take (t185 : Int).toNat : List (S34))).bind fun y189 => (if y186.length + y189.length < 5864062014805 then ((some (y186 ++ y189 : List (S34))).bind fun y193 => (if 0 ≤ (wrap64 (t185 + 1)) then (if (wrap64 (t185 + 1)) ≤ (bt178.2.2.2.length : Int) then ((some (bt178.2.2.2.drop ((wrap64 (t185 + 1)) : Int).toNat : List (S34))).bind fun y196 => (if y193.length + y196.length < 5864062014805 then ((net_Check.f t168 t169 t170 y175).bind fun t203 => (if t203 = 0 then ((net_Check.f bt178.1 bt178.2.1 bt178.2.2.1 (y193 ++ y196)).bind fun t204 => (if t204 = 0 then ((net_Same.f t168 t169 t170 y175 t141 t142 t143 t144).bind fun t205 => (some (!t205))) else (some false))) else (some false))) else (none))) else (none)) else (none))) else (none))) else (none)) else (none)))) else ((net_Check.f t168 t169 t170 y175).bind fun t206 => (if t206 = 0 then ((net_Check.f bt178.1 bt178.2.1 bt178.2.2.1 bt178.2.2.2).bind fun t207 => (if t207 = 0 then ((net_Same.f t168 t169 t170 y175 t141 t142 t143 t144).bind fun t208 => (some (!t208))) else (some false))) else (some false))))) = some r := by first | (rw [hy175]; with_reducible exact H) | (have H2_ := (Option.bind_some _ _).symm.trans H; rw [hy175]; with_reducible exact H2_) | (have H2_ := (Option.bind_some _ _).symm.trans H; with_reducible exact H2_) | with_reducible exact H | (rw [hy175]; exact H) | exact H);(have Ny175 := Aside0.mk hy175);(clear hy175);(replace H := Option.bind_eq_some_iff.mp H);(obtain ⟨⟨t178, t179, t180, t181⟩, A650, H⟩ := H);(replace H : (if (l2.length : Int) > 0 then ((racewaylaw3_pick.f a3 (t181.length : Int)).bind fun t185 => ((some (([] : List (S34)) : List (S34))).bind fun y186 => (if 0 ≤ t185 then (if t185 ≤ (t181.length : Int) then ((some (t181.take (t185 : Int).toNat : List (S34))).bind fun y189 => (if y186.length + y189.length < 5864062014805 then ((some (y186 ++ y189 : List (S34))).bind fun y193 => (if 0 ≤ (wrap64 (t185 + 1)) then (if (wrap64 (t185 + 1)) ≤ (t181.length : Int) then ((some (t181.drop ((wrap64 (t185 + 1)) : Int).toNat : List (S34))).bind fun y196 => (if y193.length + y196.length < 5864062014805 then ((net_Check.f t168 t169 t170 y175).bind fun t203 => (if t203 = 0 then ((net_Check.f t178 t179 t180 (y193 ++ y196)).bind fun t204 => (if t204 = 0 then ((net_Same.f t168 t169 t170 y175 t141 t142 t143 t144).bind fun t205 => (some (!t205))) else (some false))) else (some false))) else (none))) else (none)) else (none))) else (none))) else (none)) else (none)))) else ((net_Check.f t168 t169 t170 y175).bind fun t206 => (if t206 = 0 then ((net_Check.f t178 t179 t180 t181).bind fun t207 => (if t207 = 0 then ((net_Same.f t168 t169 t170 y175 t141 t142 t143 t144).bind fun t208 => (some (!t208))) else (some false))) else (some false)))) = some r := H);(have A65 := Aside0.mk A650);(clear A650)
            by_cases c66 : (l2.length : Int) > 0
            ·(rw [if_pos c66] at H);(have c66b0 : decide (0 < (l2.length : Int)) = true := decide_eq_true c66);(have c66b1 : decide (0 < l2.length) = true := decide_eq_true (by omega));(clear c66);(replace H := Option.bind_eq_some_iff.mp H);(obtain ⟨t185, A670, H⟩ := H);(replace H : ((some (([] : List (S34)) : List (S34))).bind fun y186 => (if 0 ≤ t185 then (if t185 ≤ (t181.length : Int) then ((some (t181.take (t185 : Int).toNat : List (S34))).bind fun y189 => (if y186.length + y189.length < 5864062014805 then ((some (y186 ++ y189 : List (S34))).bind fun y193 => (if 0 ≤ (wrap64 (t185 + 1)) then (if (wrap64 (t185 + 1)) ≤ (t181.length : Int) then ((some (t181.drop ((wrap64 (t185 + 1)) : Int).toNat : List (S34))).bind fun y196 => (if y193.length + y196.length < 5864062014805 then ((net_Check.f t168 t169 t170 y175).bind fun t203 => (if t203 = 0 then ((net_Check.f t178 t179 t180 (y193 ++ y196)).bind fun t204 => (if t204 = 0 then ((net_Same.f t168 t169 t170 y175 t141 t142 t143 t144).bind fun t205 => (some (!t205))) else (some false))) else (some false))) else (none))) else (none)) else (none))) else (none))) else (none)) else (none))) = some r := H);(have A67 := Aside0.mk A670);(clear A670);(obtain ⟨y186, hy186⟩ : ∃ y_ : List (S34), y_ = (([] : List (S34))) := ⟨_, rfl⟩);(replace H : (if 0 ≤ t185 then (if t185 ≤ (t181.length : Int) then ((some (t181.take (t185 : Int).toNat : List (S34))).bind fun y189 => (if y186.length + y189.length < 5864062014805 then ((some (y186 ++ y189 : List (S34))).bind fun y193 => (if 0 ≤ (wrap64 (t185 + 1)) then (if (wrap64 (t185 + 1)) ≤ (t181.length : Int) then ((some (t181.drop ((wrap64 (t185 + 1)) : Int).toNat : List (S34))).bind fun y196 => (if y193.length + y196.length < 5864062014805 then ((net_Check.f t168 t169 t170 y175).bind fun t203 => (if t203 = 0 then ((net_Check.f t178 t179 t180 (y193 ++ y196)).bind fun t204 => (if t204 = 0 then ((net_Same.f t168 t169 t170 y175 t141 t142 t143 t144).bind fun t205 => (some (!t205))) else (some false))) else (some false))) else (none))) else (none)) else (none))) else (none))) else (none)) else (none)) = some r := by first | (rw [hy186]; with_reducible exact H) | (have H2_ := (Option.bind_some _ _).symm.trans H; rw [hy186]; with_reducible exact H2_) | (have H2_ := (Option.bind_some _ _).symm.trans H; with_reducible exact H2_) | with_reducible exact H | (rw [hy186]; exact H) | exact H);(have Ny186 := Aside0.mk hy186);(clear hy186)
             by_cases c68 : 0 ≤ t185
             ·(rw [if_pos c68] at H);(have c68b0 := eq_true c68);(have c68b1 : decide (0 ≤ t185) = true := decide_eq_true c68);(clear c68)
              by_cases c69 : t185 ≤ (t181.length : Int)
              ·(rw [if_pos c69] at H);(have c69b0 := eq_true c69);(have c69b1 : decide (t185 ≤ (t181.length : Int)) = true := decide_eq_true c69);(clear c69);(obtain ⟨y189, hy189⟩ : ∃ y_ : List (S34), y_ = (t181.take (t185 : Int).toNat) := ⟨_, rfl⟩);(replace H : (if y186.length + y189.length < 5864062014805 then ((some (y186 ++ y189 : List (S34))).bind fun y193 => (if 0 ≤ (wrap64 (t185 + 1)) then (if (wrap64 (t185 + 1)) ≤ (t181.length : Int) then ((some (t181.drop ((wrap64 (t185 + 1)) : Int).toNat : List (S34))).bind fun y196 => (if y193.length + y196.length < 5864062014805 then ((net_Check.f t168 t169 t170 y175).bind fun t203 => (if t203 = 0 then ((net_Check.f t178 t179 t180 (y193 ++ y196)).bind fun t204 => (if t204 = 0 then ((net_Same.f t168 t169 t170 y175 t141 t142 t143 t144).bind fun t205 => (some (!t205))) else (some false))) else (some false))) else (none))) else (none)) else (none))) else (none)) = some r := by first | (rw [hy189]; with_reducible exact H) | (have H2_ := (Option.bind_some _ _).symm.trans H; rw [hy189]; with_reducible exact H2_) | (have H2_ := (Option.bind_some _ _).symm.trans H; with_reducible exact H2_) | with_reducible exact H | (rw [hy189]; exact H) | exact H);(have Ny189 := Aside0.mk hy189);(clear hy189)
               by_cases c70 : y186.length + y189.length < 5864062014805
               ·(rw [if_pos c70] at H);(have LMc70 := Aside0.mk c70);(clear c70);(obtain ⟨y193, hy193⟩ : ∃ y_ : List (S34), y_ = (y186 ++ y189) := ⟨_, rfl⟩);(replace H : (if 0 ≤ (wrap64 (t185 + 1)) then (if (wrap64 (t185 + 1)) ≤ (t181.length : Int) then ((some (t181.drop ((wrap64 (t185 + 1)) : Int).toNat : List (S34))).bind fun y196 => (if y193.length + y196.length < 5864062014805 then ((net_Check.f t168 t169 t170 y175).bind fun t203 => (if t203 = 0 then ((net_Check.f t178 t179 t180 (y193 ++ y196)).bind fun t204 => (if t204 = 0 then ((net_Same.f t168 t169 t170 y175 t141 t142 t143 t144).bind fun t205 => (some (!t205))) else (some false))) else (some false))) else (none))) else (none)) else (none)) = some r := by first | (rw [hy193]; with_reducible exact H) | (have H2_ := (Option.bind_some _ _).symm.trans H; rw [hy193]; with_reducible exact H2_) | (have H2_ := (Option.bind_some _ _).symm.trans H; with_reducible exact H2_) | with_reducible exact H | (rw [hy193]; exact H) | exact H);(have Ny193 := Aside0.mk hy193);(clear hy193);(obtain ⟨ji71, hji71⟩ : ∃ j_ : Int, (wrap64 (t185 + 1)) = j_ := ⟨_, rfl⟩);(replace H : (if 0 ≤ (ji71) then (if (ji71) ≤ (t181.length : Int) then ((some (t181.drop ((ji71) : Int).toNat : List (S34))).bind fun y196 => (if y193.length + y196.length < 5864062014805 then ((net_Check.f t168 t169 t170 y175).bind fun t203 => (if t203 = 0 then ((net_Check.f t178 t179 t180 (y193 ++ y196)).bind fun t204 => (if t204 = 0 then ((net_Same.f t168 t169 t170 y175 t141 t142 t143 t144).bind fun t205 => (some (!t205))) else (some false))) else (some false))) else (none))) else (none)) else (none)) = some r := by first | (rw [hji71] at H; exact H) | (simp only [hji71] at H ⊢; exact H));((try rw [hji71] at A63));((try rw [hji71] at A65));((try rw [hji71] at A67));(have hji71w : (IntKind.i64.wrap (t185 + 1)) = ji71 := (i64_w _).trans hji71)
                by_cases c72 : 0 ≤ (ji71)
                ·(rw [if_pos c72] at H);(have c72b0 := eq_true c72);(have c72b1 : decide (0 ≤ (ji71)) = true := decide_eq_true c72);(clear c72)
                 by_cases c73 : (ji71) ≤ (t181.length : Int)
                 ·(rw [if_pos c73] at H);(have c73b0 := eq_true c73);(have c73b1 : decide ((ji71) ≤ (t181.length : Int)) = true := decide_eq_true c73);(clear c73);(obtain ⟨y196, hy196⟩ : ∃ y_ : List (S34), y_ = (t181.drop ((ji71) : Int).toNat) := ⟨_, rfl⟩);(replace H : (if y193.length + y196.length < 5864062014805 then ((net_Check.f t168 t169 t170 y175).bind fun t203 => (if t203 = 0 then ((net_Check.f t178 t179 t180 (y193 ++ y196)).bind fun t204 => (if t204 = 0 then ((net_Same.f t168 t169 t170 y175 t141 t142 t143 t144).bind fun t205 => (some (!t205))) else (some false))) else (some false))) else (none)) = some r := by first | (rw [hy196]; with_reducible exact H) | (have H2_ := (Option.bind_some _ _).symm.trans H; rw [hy196]; with_reducible exact H2_) | (have H2_ := (Option.bind_some _ _).symm.trans H; with_reducible exact H2_) | with_reducible exact H | (rw [hy196]; exact H) | exact H);(have Ny196 := Aside0.mk hy196);(clear hy196)
                  by_cases c74 : y193.length + y196.length < 5864062014805
                  ·(rw [if_pos c74] at H);(have LMc74 := Aside0.mk c74);(clear c74);(obtain ⟨y200, hy200⟩ : ∃ y_ : List (S34), y_ = (y193 ++ y196) := ⟨_, rfl⟩);(replace H : ((net_Check.f t168 t169 t170 y175).bind fun t203 => (if t203 = 0 then ((net_Check.f t178 t179 t180 y200).bind fun t204 => (if t204 = 0 then ((net_Same.f t168 t169 t170 y175 t141 t142 t143 t144).bind fun t205 => (some (!t205))) else (some false))) else (some false))) = some r := by first | (rw [hy200]; with_reducible exact H) | (have H2_ := (Option.bind_some _ _).symm.trans H; rw [hy200]; with_reducible exact H2_) | (have H2_ := (Option.bind_some _ _).symm.trans H; with_reducible exact H2_) | with_reducible exact H | (rw [hy200]; exact H) | exact H);(have Ny200 := Aside0.mk hy200);(clear hy200);(replace H := Option.bind_eq_some_iff.mp H);(obtain ⟨t203, A750, H⟩ := H);(replace H : (if t203 = 0 then ((net_Check.f t178 t179 t180 y200).bind fun t204 => (if t204 = 0 then ((net_Same.f t168 t169 t170 y175 t141 t142 t143 t144).bind fun t205 => (some (!t205))) else (some false))) else (some false)) = some r := H);(have A75 := Aside0.mk A750);(clear A750)
                   by_cases c76 : t203 = 0
                   ·(rw [if_pos c76] at H);(have c76b0 : (t203 == 0) = true := beq_iff_eq.mpr c76);(have c76b1 : (t203 != 0) = false := bne_eq_false_iff_eq.mpr c76);(clear c76);(replace H := Option.bind_eq_some_iff.mp H);(obtain ⟨t204, A770, H⟩ := H);(replace H : (if t204 = 0 then ((net_Same.f t168 t169 t170 y175 t141 t142 t143 t144).bind fun t205 => (some (!t205))) else (some false)) = some r := H);(have A77 := Aside0.mk A770);(clear A770)
                    by_cases c78 : t204 = 0
                    ·(rw [if_pos c78] at H);(have c78b0 : (t204 == 0) = true := beq_iff_eq.mpr c78);(have c78b1 : (t204 != 0) = false := bne_eq_false_iff_eq.mpr c78);(clear c78);(replace H := Option.bind_eq_some_iff.mp H);(obtain ⟨t205, A790, H⟩ := H);(replace H : (some (!t205)) = some r := H);(have A79 := Aside0.mk A790);(clear A790)
                     as_aux_lemma =>
                      (obtain rfl := Option.some.inj H);(have hcz80_0 : wc.cell? ⟨gb147, 0, none⟩ = some (.int .i64 t141) := (blk_cell BK147.out 0).trans rfl);(have hcz80_1 : wc.cell? ⟨gb147, 1, none⟩ = some (.int .i64 t142) := (blk_cell BK147.out 1).trans rfl);(have hcz80_2 : wc.cell? ⟨gb147, 2, none⟩ = some (.int .i64 t143) := (blk_cell BK147.out 2).trans rfl);(have hcz80_3 : wc.cell? ⟨gb147, 3, none⟩ = some (.slice Ao13 t144.length co13) := (blk_cell BK147.out 3).trans rfl);(have hfz80_0 := blk_frozen BK147.out 0);(have hfz80_1 := blk_frozen BK147.out 1);(have hfz80_2 := blk_frozen BK147.out 2);(have hfz80_3 := blk_frozen BK147.out 3)
                      try go_wp2_with (first | ((with_reducible refine gate_callee (f := 11) rfl ?_); refine goesL_ (some 130) rfl rfl Try.func11 (by kernel_rfl) rfl #[.agg #[.int .i64 t141, .int .i64 t142, .int .i64 t143, .slice Ao13 t144.length co13]] rfl (by (try simp only [List.map_toArray, List.map_cons, List.map_nil]); first | done | rfl | (simp only [List.length_drop, List.length_take]; rfl)) ?_; (with_reducible refine (net_Copy.calls t141 t142 t143 _ _ t144 t168 t169 t170 t171 _ ?side1 ?side2 A63.out).mono ?_); (case side1 => repeat (first | exact (Kd.R_reads' HO_148003.out).2.2 | (with_reducible refine Kd.C_alloc ?_ _) | (with_reducible refine Kd.C_drewN ?_ _) | (with_reducible refine Kd.C_drew ?_))); (case side2 => exact (Kd.R_reads' HO_148003.out).2.1); rintro e w81 ⟨v172, rfl, ho0, hb⟩; refine ⟨_, rfl, ?_⟩; have n0_ := Aside0.mk (Kd.R_elder' (by (with_reducible repeat first | apply Kd.R_alloc | apply Kd.R_drewN | apply Kd.R_drew); exact HO_148003.out) (Kd.R_base ho0) hb); have n1_ := Aside0.mk (Kd.R_lower (Kd.R_new' ho0 (Kd.R_lt (by (with_reducible repeat first | apply Kd.R_alloc | apply Kd.R_drewN | apply Kd.R_drew); exact HO_148003.out))) (below_size (by repeat (first | (with_reducible first | exact HB.out | apply below_alloc | apply pw_below_drewN | apply below_drew1 | refine below_set ?_ GE147.out) | exact HB.out)))); have n2_ := Aside0.mk (blk_below (g := gb147) (o := .cells #[.int .i64 t141, .int .i64 t142, .int .i64 t143, .slice Ao13 t144.length co13] 26 (0, 0)) (by (with_reducible repeat first | refine blk_drewN ?_ _ | refine blk_drew ?_ | refine blk_alloc ?_ _); exact BK147.out) hb); have n3_ := Aside0.mk (below_step (by repeat (first | (with_reducible first | exact HB.out | apply below_alloc | apply pw_below_drewN | apply below_drew1 | refine below_set ?_ GE147.out) | exact HB.out)) hb); clear HO_148003; clear BK147; clear HB; have HO_148003 := n0_; have HO173 := n1_; have BK147 := n2_; have HB := n3_; clear n0_ n1_ n2_ n3_; (try clear hb); (try clear hb2); (try clear hk); (try clear hi); (try clear ho0)) | ((with_reducible refine gate_dst (N := 16) rfl ?_); (try (refine gate_guard (by rfl) ?_; dsimp only)); refine box_event ?hg (N := 16) ?hd (cs := #[.int .i64 0, .int .i64 0, .int .i64 0, .slice none 0 0]) (t := 26) ?hr ?_; (case hd => rfl); (case hg => rfl); (case hr => first | (go_simp; done) | (go_simp; rfl)); intro gb174 hg w82 hbox hb; have n0_ := Aside0.mk (Kd.R_below (by (with_reducible repeat first | apply Kd.R_alloc | apply Kd.R_drewN | apply Kd.R_drew); exact HO_148003.out) hb); have n1_ := Aside0.mk (Kd.R_below (by (with_reducible repeat first | apply Kd.R_alloc | apply Kd.R_drewN | apply Kd.R_drew); exact HO173.out) hb); have n2_ := Aside0.mk (blk_below (g := gb147) (o := .cells #[.int .i64 t141, .int .i64 t142, .int .i64 t143, .slice Ao13 t144.length co13] 26 (0, 0)) (by (with_reducible repeat first | refine blk_drewN ?_ _ | refine blk_drew ?_ | refine blk_alloc ?_ _); exact BK147.out) hb); have n3_ := Aside0.mk (below_step (by repeat (first | (with_reducible first | exact HB.out | apply below_alloc | apply pw_below_drewN | apply below_drew1 | refine below_set ?_ GE147.out) | exact HB.out)) hb); have n4_ := Aside0.mk (hbox); have n5_ := Aside0.mk ((by rw [hg]; exact (below_size (by repeat (first | (with_reducible first | exact HB.out | apply below_alloc | apply pw_below_drewN | apply below_drew1 | refine below_set ?_ GE147.out) | exact HB.out))) : w.heap.size ≤ gb174)); have n6_ := Aside0.mk ((by rw [hg]; exact (below_size (by repeat (first | (with_reducible first | exact HB.out | apply below_alloc | apply pw_below_drewN | apply below_drew1 | refine below_set ?_ GE147.out) | exact HB.out))) : w.heap.size ≤ gb174)); have n7_ := Aside0.mk ((by rw [hg]; exact Nat.ne_of_lt (blk_lt (g := gb147) (o := .cells #[.int .i64 t141, .int .i64 t142, .int .i64 t143, .slice Ao13 t144.length co13] 26 (0, 0)) (by (with_reducible repeat first | refine blk_drewN ?_ _ | refine blk_drew ?_ | refine blk_alloc ?_ _); exact BK147.out)) : gb147 ≠ gb174)); have n8_ := Aside0.mk ((by rw [hg]; exact Nat.ne_of_gt (blk_lt (g := gb147) (o := .cells #[.int .i64 t141, .int .i64 t142, .int .i64 t143, .slice Ao13 t144.length co13] 26 (0, 0)) (by (with_reducible repeat first | refine blk_drewN ?_ _ | refine blk_drew ?_ | refine blk_alloc ?_ _); exact BK147.out)) : gb174 ≠ gb147)); clear HO_148003; clear HO173; clear BK147; clear HB; have HO_148003 := n0_; have HO173 := n1_; have BK147 := n2_; have HB := n3_; have BK174 := n4_; have GW174 := n5_; have GE174 := n6_; have NB147_174 := n7_; have NB174_147 := n8_; clear n0_ n1_ n2_ n3_ n4_ n5_ n6_ n7_ n8_; clear hb hbox hg; have hnb83 := NB174_147.out; have hnc83 := NB147_174.out; have hcz84_0 : w82.cell? ⟨gb174, 0, none⟩ = some (.int .i64 0) := (blk_cell BK174.out 0).trans rfl; have hcz84_1 : w82.cell? ⟨gb174, 1, none⟩ = some (.int .i64 0) := (blk_cell BK174.out 1).trans rfl; have hcz84_2 : w82.cell? ⟨gb174, 2, none⟩ = some (.int .i64 0) := (blk_cell BK174.out 2).trans rfl; have hcz84_3 : w82.cell? ⟨gb174, 3, none⟩ = some (.slice none 0 0) := (blk_cell BK174.out 3).trans rfl; have hfz84_0 := blk_frozen BK174.out 0; have hfz84_1 := blk_frozen BK174.out 1; have hfz84_2 := blk_frozen BK174.out 2; have hfz84_3 := blk_frozen BK174.out 3; obtain ⟨Ao85, co85, eo85⟩ := Kd.R_slice HO173.out; subst eo85; have hcz86_0 : w82.cell? ⟨gb147, 0, none⟩ = some (.int .i64 t141) := (blk_cell BK147.out 0).trans rfl; have hcz86_1 : w82.cell? ⟨gb147, 1, none⟩ = some (.int .i64 t142) := (blk_cell BK147.out 1).trans rfl; have hcz86_2 : w82.cell? ⟨gb147, 2, none⟩ = some (.int .i64 t143) := (blk_cell BK147.out 2).trans rfl; have hcz86_3 : w82.cell? ⟨gb147, 3, none⟩ = some (.slice Ao13 t144.length co13) := (blk_cell BK147.out 3).trans rfl; have hfz86_0 := blk_frozen BK147.out 0; have hfz86_1 := blk_frozen BK147.out 1; have hfz86_2 := blk_frozen BK147.out 2; have hfz86_3 := blk_frozen BK147.out 3) | ((with_reducible refine gate_builtin (b := .append) (xs := #[.tmp 132, .tmp 138]) rfl ?_); (try (refine gate_guard (by rfl) ?_; dsimp only)); at_builtin; refine Kd.R_append k34 (w0 := w) w.heap.size rfl (.tmp 132) (.tmp 138) 24 34 (.agg #[(.int .i64 0), (.int .i64 0), (.int .i64 0)]) 24 rfl Try.underlying24 info34 rfl (by decide) (by omega) (.slice Ao85 t171.length co85) t171 (⟨t143, t142, 0⟩ : S34) [.int .i64 t143, .int .i64 t142, .int .i64 0] (fun k_ => some k_ ≠ (.slice Ao13 t144.length co13 : Value).ownBlock) (fun _ => False) rfl (by first | (go_simp; done) | (go_simp; rfl)) ?aP (fun _ hk => hk.elim) ?aF ?aO ?aB ?aS ?aL ?_; (case aP => exact k34_mkM _ _ _ (⟨t143, t142, 0⟩ : S34)); (case aB => exact (by repeat (first | (with_reducible first | exact HB.out | apply below_alloc | apply pw_below_drewN | apply below_drew1 | refine below_set ?_ GE147.out | refine below_set ?_ GE174.out) | exact HB.out))); (case aF => exact (fun k_ hk => Kd.fresh' (Kd.R_lt (by (with_reducible repeat first | apply Kd.R_alloc | apply Kd.R_drewN | apply Kd.R_drew); exact (Kd.R_mono (Kd.R_far (p := ⟨gb174, 3, none⟩) (Kd.R_far (p := ⟨gb174, 2, none⟩) (Kd.R_far (p := ⟨gb174, 1, none⟩) (Kd.R_far (p := ⟨gb174, 0, none⟩) (Kd.R_types HO_148003.out BK174.out (by decide)) (fun _ hk => hk.2) (.int .i64 t168)) (fun _ hk => hk.2) (.int .i64 t169)) (fun _ hk => hk.2) (.int .i64 t170)) (fun _ hk => hk.2) (.slice Ao85 t171.length co85)) (fun _ h_ => h_.1)))) k_ hk)); (case aO => exact (by (with_reducible repeat first | apply Kd.R_alloc | apply Kd.R_drewN | apply Kd.R_drew); exact Kd.R_mono (Kd.R_far (p := ⟨gb174, 3, none⟩) (Kd.R_far (p := ⟨gb174, 2, none⟩) (Kd.R_far (p := ⟨gb174, 1, none⟩) (Kd.R_far (p := ⟨gb174, 0, none⟩) (Kd.R_types HO173.out BK174.out (by decide)) (fun _ hk => hk.2) (.int .i64 t168)) (fun _ hk => hk.2) (.int .i64 t169)) (fun _ hk => hk.2) (.int .i64 t170)) (fun _ hk => hk.2) (.slice Ao85 t171.length co85)) (fun _ hk => hk.1.2))); (case aS => exact (below_size (by repeat (first | (with_reducible first | exact HB.out | apply below_alloc | apply pw_below_drewN | apply below_drew1 | refine below_set ?_ GE147.out | refine below_set ?_ GE174.out) | exact HB.out)))); (case aL => have := LMc64.out; omega); intro v176 w87 ho hb hg hat; rw [← Ny175.out] at ho; have n0_ := Aside0.mk (Kd.R_after (ok := (fun _ => True)) (by (with_reducible repeat first | apply Kd.R_alloc | apply Kd.R_drewN | apply Kd.R_drew); exact Kd.R_mono (Kd.R_far (p := ⟨gb174, 3, none⟩) (Kd.R_far (p := ⟨gb174, 2, none⟩) (Kd.R_far (p := ⟨gb174, 1, none⟩) (Kd.R_far (p := ⟨gb174, 0, none⟩) (Kd.R_types HO_148003.out BK174.out (by decide)) (fun _ hk => hk.2) (.int .i64 t168)) (fun _ hk => hk.2) (.int .i64 t169)) (fun _ hk => hk.2) (.int .i64 t170)) (fun _ hk => hk.2) (.slice Ao85 t171.length co85)) (fun _ hk => ⟨trivial, hk.1.2⟩)) hg hat); have n1_ := Aside0.mk (blk_grown (g := gb147) (o := .cells #[.int .i64 t141, .int .i64 t142, .int .i64 t143, .slice Ao13 t144.length co13] 26 (0, 0)) (by (with_reducible repeat first | refine blk_drewN ?_ _ | refine blk_drew ?_ | refine blk_alloc ?_ _); refine blk_far ?_ NB147_174.out _; (with_reducible repeat first | refine blk_drewN ?_ _ | refine blk_drew ?_ | refine blk_alloc ?_ _); refine blk_far ?_ NB147_174.out _; (with_reducible repeat first | refine blk_drewN ?_ _ | refine blk_drew ?_ | refine blk_alloc ?_ _); refine blk_far ?_ NB147_174.out _; (with_reducible repeat first | refine blk_drewN ?_ _ | refine blk_drew ?_ | refine blk_alloc ?_ _); refine blk_far ?_ NB147_174.out _; (with_reducible repeat first | refine blk_drewN ?_ _ | refine blk_drew ?_ | refine blk_alloc ?_ _); exact BK147.out) hg (Kd.R_ne HO173.out BK147.out (by decide))); have n2_ := Aside0.mk (blk_grown (g := gb174) (o := .cells #[.int .i64 t168, .int .i64 t169, .int .i64 t170, .slice Ao85 t171.length co85] 26 (0, 0)) (by (with_reducible repeat first | refine blk_drewN ?_ _ | refine blk_drew ?_ | refine blk_alloc ?_ _); refine blk_put (cs := #[.int .i64 t168, .int .i64 t169, .int .i64 t170, .slice none 0 0]) ?_ 3 _ rfl; (with_reducible repeat first | refine blk_drewN ?_ _ | refine blk_drew ?_ | refine blk_alloc ?_ _); refine blk_put (cs := #[.int .i64 t168, .int .i64 t169, .int .i64 0, .slice none 0 0]) ?_ 2 _ rfl; (with_reducible repeat first | refine blk_drewN ?_ _ | refine blk_drew ?_ | refine blk_alloc ?_ _); refine blk_put (cs := #[.int .i64 t168, .int .i64 0, .int .i64 0, .slice none 0 0]) ?_ 1 _ rfl; (with_reducible repeat first | refine blk_drewN ?_ _ | refine blk_drew ?_ | refine blk_alloc ?_ _); refine blk_put (cs := #[.int .i64 0, .int .i64 0, .int .i64 0, .slice none 0 0]) ?_ 0 _ rfl; (with_reducible repeat first | refine blk_drewN ?_ _ | refine blk_drew ?_ | refine blk_alloc ?_ _); exact BK174.out) hg (Kd.R_ne HO173.out BK174.out (by decide))); have n3_ := Aside0.mk (hb); have n4_ := Aside0.mk (ho); clear HO_148003; clear BK147; clear BK174; clear HB; clear HO173; have HO_148003 := n0_; have BK147 := n1_; have BK174 := n2_; have HB := n3_; have HO177 := n4_; clear n0_ n1_ n2_ n3_ n4_; clear ho hb hg hat; obtain ⟨Ao88, co88, eo88⟩ := Kd.R_slice HO177.out; subst eo88; have hcz89_0 : w87.cell? ⟨gb174, 0, none⟩ = some (.int .i64 t168) := (blk_cell BK174.out 0).trans rfl; have hcz89_1 : w87.cell? ⟨gb174, 1, none⟩ = some (.int .i64 t169) := (blk_cell BK174.out 1).trans rfl; have hcz89_2 : w87.cell? ⟨gb174, 2, none⟩ = some (.int .i64 t170) := (blk_cell BK174.out 2).trans rfl; have hcz89_3 : w87.cell? ⟨gb174, 3, none⟩ = some (.slice Ao85 t171.length co85) := (blk_cell BK174.out 3).trans rfl; have hfz89_0 := blk_frozen BK174.out 0; have hfz89_1 := blk_frozen BK174.out 1; have hfz89_2 := blk_frozen BK174.out 2; have hfz89_3 := blk_frozen BK174.out 3; have hcz90_0 : w87.cell? ⟨gb147, 0, none⟩ = some (.int .i64 t141) := (blk_cell BK147.out 0).trans rfl; have hcz90_1 : w87.cell? ⟨gb147, 1, none⟩ = some (.int .i64 t142) := (blk_cell BK147.out 1).trans rfl; have hcz90_2 : w87.cell? ⟨gb147, 2, none⟩ = some (.int .i64 t143) := (blk_cell BK147.out 2).trans rfl; have hcz90_3 : w87.cell? ⟨gb147, 3, none⟩ = some (.slice Ao13 t144.length co13) := (blk_cell BK147.out 3).trans rfl; have hfz90_0 := blk_frozen BK147.out 0; have hfz90_1 := blk_frozen BK147.out 1; have hfz90_2 := blk_frozen BK147.out 2; have hfz90_3 := blk_frozen BK147.out 3) | ((with_reducible refine gate_callee (f := 11) rfl ?_); refine goesL_ (some 142) rfl rfl Try.func11 (by kernel_rfl) rfl #[.agg #[.int .i64 t141, .int .i64 t142, .int .i64 t143, .slice Ao13 t144.length co13]] rfl (by (try simp only [List.map_toArray, List.map_cons, List.map_nil]); first | done | rfl | (simp only [List.length_drop, List.length_take]; rfl)) ?_; (with_reducible refine (net_Copy.calls t141 t142 t143 _ _ t144 t178 t179 t180 t181 _ ?side1 ?side2 A65.out).mono ?_); (case side1 => refine (Kd.R_reads' (e := 34) (base := w.heap.size) (ok := fun k_ => (True ∧ some k_ ≠ (.slice Ao88 y175.length co88 : Value).ownBlock)) (n := t144.length) (c := co13) ?_).2.2; exact (by (with_reducible repeat first | apply Kd.R_alloc | apply Kd.R_drewN | apply Kd.R_drew); exact (Kd.R_mono (Kd.R_far (p := ⟨gb174, 3, none⟩) (Kd.R_types HO_148003.out BK174.out (by decide)) (fun _ hk => hk.2) (.slice Ao88 y175.length co88)) (fun _ h_ => h_.1)))); (case side2 => exact (Kd.R_reads' HO_148003.out).2.1); rintro e w91 ⟨v182, rfl, ho0, hb⟩; refine ⟨_, rfl, ?_⟩; have n0_ := Aside0.mk (Kd.R_elder' (by (with_reducible repeat first | apply Kd.R_alloc | apply Kd.R_drewN | apply Kd.R_drew); exact (Kd.R_mono (Kd.R_far (p := ⟨gb174, 3, none⟩) (Kd.R_types HO_148003.out BK174.out (by decide)) (fun _ hk => hk.2) (.slice Ao88 y175.length co88)) (fun _ h_ => h_.1))) (Kd.R_base ho0) hb); have n1_ := Aside0.mk (Kd.R_elder' (by (with_reducible repeat first | apply Kd.R_alloc | apply Kd.R_drewN | apply Kd.R_drew); exact (Kd.R_mono (Kd.R_far (p := ⟨gb174, 3, none⟩) (Kd.R_types HO177.out BK174.out (by decide)) (fun _ hk => hk.2) (.slice Ao88 y175.length co88)) (fun _ h_ => h_.1))) (Kd.R_base ho0) hb); have n2_ := Aside0.mk (Kd.R_lower (Kd.R_new' (Kd.R_new' ho0 (Kd.R_lt (by (with_reducible repeat first | apply Kd.R_alloc | apply Kd.R_drewN | apply Kd.R_drew); exact (Kd.R_mono (Kd.R_far (p := ⟨gb174, 3, none⟩) (Kd.R_types HO_148003.out BK174.out (by decide)) (fun _ hk => hk.2) (.slice Ao88 y175.length co88)) (fun _ h_ => h_.1))))) (Kd.R_lt (by (with_reducible repeat first | apply Kd.R_alloc | apply Kd.R_drewN | apply Kd.R_drew); exact (Kd.R_mono (Kd.R_far (p := ⟨gb174, 3, none⟩) (Kd.R_types HO177.out BK174.out (by decide)) (fun _ hk => hk.2) (.slice Ao88 y175.length co88)) (fun _ h_ => h_.1))))) (below_size (by repeat (first | (with_reducible first | exact HB.out | apply below_alloc | apply pw_below_drewN | apply below_drew1 | refine below_set ?_ GE147.out | refine below_set ?_ GE174.out) | exact HB.out)))); have n3_ := Aside0.mk (blk_below (g := gb147) (o := .cells #[.int .i64 t141, .int .i64 t142, .int .i64 t143, .slice Ao13 t144.length co13] 26 (0, 0)) (by (with_reducible repeat first | refine blk_drewN ?_ _ | refine blk_drew ?_ | refine blk_alloc ?_ _); refine blk_far ?_ NB147_174.out _; (with_reducible repeat first | refine blk_drewN ?_ _ | refine blk_drew ?_ | refine blk_alloc ?_ _); exact BK147.out) hb); have n4_ := Aside0.mk (blk_below (g := gb174) (o := .cells #[.int .i64 t168, .int .i64 t169, .int .i64 t170, .slice Ao88 y175.length co88] 26 (0, 0)) (by (with_reducible repeat first | refine blk_drewN ?_ _ | refine blk_drew ?_ | refine blk_alloc ?_ _); refine blk_put (cs := #[.int .i64 t168, .int .i64 t169, .int .i64 t170, .slice Ao85 t171.length co85]) ?_ 3 _ rfl; (with_reducible repeat first | refine blk_drewN ?_ _ | refine blk_drew ?_ | refine blk_alloc ?_ _); exact BK174.out) hb); have n5_ := Aside0.mk (below_step (by repeat (first | (with_reducible first | exact HB.out | apply below_alloc | apply pw_below_drewN | apply below_drew1 | refine below_set ?_ GE147.out | refine below_set ?_ GE174.out) | exact HB.out)) hb); clear HO_148003; clear HO177; clear BK147; clear BK174; clear HB; have HO_148003 := n0_; have HO177 := n1_; have HO183 := n2_; have BK147 := n3_; have BK174 := n4_; have HB := n5_; clear n0_ n1_ n2_ n3_ n4_ n5_; (try clear hb); (try clear hb2); (try clear hk); (try clear hi); (try clear ho0)) | ((with_reducible refine gate_dst (N := 17) rfl ?_); (try (refine gate_guard (by rfl) ?_; dsimp only)); refine box_event ?hg (N := 17) ?hd (cs := #[.int .i64 0, .int .i64 0, .int .i64 0, .slice none 0 0]) (t := 26) ?hr ?_; (case hd => rfl); (case hg => rfl); (case hr => first | (go_simp; done) | (go_simp; rfl)); intro gb184 hg w92 hbox hb; have n0_ := Aside0.mk (Kd.R_below (by (with_reducible repeat first | apply Kd.R_alloc | apply Kd.R_drewN | apply Kd.R_drew); exact HO_148003.out) hb); have n1_ := Aside0.mk (Kd.R_below (by (with_reducible repeat first | apply Kd.R_alloc | apply Kd.R_drewN | apply Kd.R_drew); exact HO177.out) hb); have n2_ := Aside0.mk (Kd.R_below (by (with_reducible repeat first | apply Kd.R_alloc | apply Kd.R_drewN | apply Kd.R_drew); exact HO183.out) hb); have n3_ := Aside0.mk (blk_below (g := gb147) (o := .cells #[.int .i64 t141, .int .i64 t142, .int .i64 t143, .slice Ao13 t144.length co13] 26 (0, 0)) (by (with_reducible repeat first | refine blk_drewN ?_ _ | refine blk_drew ?_ | refine blk_alloc ?_ _); exact BK147.out) hb); have n4_ := Aside0.mk (blk_below (g := gb174) (o := .cells #[.int .i64 t168, .int .i64 t169, .int .i64 t170, .slice Ao88 y175.length co88] 26 (0, 0)) (by (with_reducible repeat first | refine blk_drewN ?_ _ | refine blk_drew ?_ | refine blk_alloc ?_ _); exact BK174.out) hb); have n5_ := Aside0.mk (below_step (by repeat (first | (with_reducible first | exact HB.out | apply below_alloc | apply pw_below_drewN | apply below_drew1 | refine below_set ?_ GE147.out | refine below_set ?_ GE174.out) | exact HB.out)) hb); have n6_ := Aside0.mk (hbox); have n7_ := Aside0.mk ((by rw [hg]; exact (below_size (by repeat (first | (with_reducible first | exact HB.out | apply below_alloc | apply pw_below_drewN | apply below_drew1 | refine below_set ?_ GE147.out | refine below_set ?_ GE174.out) | exact HB.out))) : w.heap.size ≤ gb184)); have n8_ := Aside0.mk ((by rw [hg]; exact (below_size (by repeat (first | (with_reducible first | exact HB.out | apply below_alloc | apply pw_below_drewN | apply below_drew1 | refine below_set ?_ GE147.out | refine below_set ?_ GE174.out) | exact HB.out))) : w.heap.size ≤ gb184)); have n9_ := Aside0.mk ((by rw [hg]; exact Nat.ne_of_lt (blk_lt (g := gb147) (o := .cells #[.int .i64 t141, .int .i64 t142, .int .i64 t143, .slice Ao13 t144.length co13] 26 (0, 0)) (by (with_reducible repeat first | refine blk_drewN ?_ _ | refine blk_drew ?_ | refine blk_alloc ?_ _); exact BK147.out)) : gb147 ≠ gb184)); have n10_ := Aside0.mk ((by rw [hg]; exact Nat.ne_of_gt (blk_lt (g := gb147) (o := .cells #[.int .i64 t141, .int .i64 t142, .int .i64 t143, .slice Ao13 t144.length co13] 26 (0, 0)) (by (with_reducible repeat first | refine blk_drewN ?_ _ | refine blk_drew ?_ | refine blk_alloc ?_ _); exact BK147.out)) : gb184 ≠ gb147)); have n11_ := Aside0.mk ((by rw [hg]; exact Nat.ne_of_lt (blk_lt (g := gb174) (o := .cells #[.int .i64 t168, .int .i64 t169, .int .i64 t170, .slice Ao88 y175.length co88] 26 (0, 0)) (by (with_reducible repeat first | refine blk_drewN ?_ _ | refine blk_drew ?_ | refine blk_alloc ?_ _); exact BK174.out)) : gb174 ≠ gb184)); have n12_ := Aside0.mk ((by rw [hg]; exact Nat.ne_of_gt (blk_lt (g := gb174) (o := .cells #[.int .i64 t168, .int .i64 t169, .int .i64 t170, .slice Ao88 y175.length co88] 26 (0, 0)) (by (with_reducible repeat first | refine blk_drewN ?_ _ | refine blk_drew ?_ | refine blk_alloc ?_ _); exact BK174.out)) : gb184 ≠ gb174)); clear HO_148003; clear HO177; clear HO183; clear BK147; clear BK174; clear HB; have HO_148003 := n0_; have HO177 := n1_; have HO183 := n2_; have BK147 := n3_; have BK174 := n4_; have HB := n5_; have BK184 := n6_; have GW184 := n7_; have GE184 := n8_; have NB147_184 := n9_; have NB184_147 := n10_; have NB174_184 := n11_; have NB184_174 := n12_; clear n0_ n1_ n2_ n3_ n4_ n5_ n6_ n7_ n8_ n9_ n10_ n11_ n12_; clear hb hbox hg; have hnb93 := NB184_147.out; have hnc93 := NB147_184.out; have hnb94 := NB184_174.out; have hnc94 := NB174_184.out; have hcz95_0 : w92.cell? ⟨gb184, 0, none⟩ = some (.int .i64 0) := (blk_cell BK184.out 0).trans rfl; have hcz95_1 : w92.cell? ⟨gb184, 1, none⟩ = some (.int .i64 0) := (blk_cell BK184.out 1).trans rfl; have hcz95_2 : w92.cell? ⟨gb184, 2, none⟩ = some (.int .i64 0) := (blk_cell BK184.out 2).trans rfl; have hcz95_3 : w92.cell? ⟨gb184, 3, none⟩ = some (.slice none 0 0) := (blk_cell BK184.out 3).trans rfl; have hfz95_0 := blk_frozen BK184.out 0; have hfz95_1 := blk_frozen BK184.out 1; have hfz95_2 := blk_frozen BK184.out 2; have hfz95_3 := blk_frozen BK184.out 3; obtain ⟨Ao96, co96, eo96⟩ := Kd.R_slice HO183.out; subst eo96) | ((with_reducible refine gate_callee (f := 12) rfl ?_); refine goesL_ (some 150) rfl rfl Try.func12 (by kernel_rfl) rfl #[.int .i64 a3, .int .i64 (t181.length : Int)] rfl (by (try simp only [List.map_toArray, List.map_cons, List.map_nil]); first | done | rfl | (simp only [List.length_drop, List.length_take]; rfl)) ?_; (with_reducible refine (racewaylaw3_pick.calls a3 (t181.length : Int) t185 _ A67.out).mono ?_); rintro e w' ⟨rfl, ⟨nd, rfl⟩⟩; refine ⟨_, rfl, ?_⟩))
                      (have n0_ : Aside0 (Kd.R k34 34 ((((w92.setCell ⟨gb184, 0, none⟩ (.int .i64 t178)).setCell ⟨gb184, 1, none⟩ (.int .i64 t179)).setCell ⟨gb184, 2, none⟩ (.int .i64 t180)).setCell ⟨gb184, 3, none⟩ (.slice Ao96 t181.length co96)) w.heap.size (fun k_ => some k_ ≠ (.slice Ao88 y175.length co88 : Value).ownBlock ∧ some k_ ≠ (.slice Ao96 t181.length co96 : Value).ownBlock) (.slice Ao13 t144.length co13) t144) := ⟨by (with_reducible repeat first | apply Kd.R_alloc | apply Kd.R_drewN | apply Kd.R_drew); exact Kd.R_mono (Kd.R_far (p := ⟨gb184, 3, none⟩) (Kd.R_far (p := ⟨gb184, 2, none⟩) (Kd.R_far (p := ⟨gb184, 1, none⟩) (Kd.R_far (p := ⟨gb184, 0, none⟩) (Kd.R_types HO_148003.out BK184.out (by decide)) (fun _ hk => hk.2) (.int .i64 t178)) (fun _ hk => hk.2) (.int .i64 t179)) (fun _ hk => hk.2) (.int .i64 t180)) (fun _ hk => hk.2) (.slice Ao96 t181.length co96)) (fun _ hk => ⟨hk.1.1.2, hk.1.2⟩)⟩);(have n1_ : Aside0 (Kd.R k34 34 ((((w92.setCell ⟨gb184, 0, none⟩ (.int .i64 t178)).setCell ⟨gb184, 1, none⟩ (.int .i64 t179)).setCell ⟨gb184, 2, none⟩ (.int .i64 t180)).setCell ⟨gb184, 3, none⟩ (.slice Ao96 t181.length co96)) w.heap.size (fun k_ => some k_ ≠ (.slice Ao13 t144.length co13 : Value).ownBlock ∧ some k_ ≠ (.slice Ao96 t181.length co96 : Value).ownBlock) (.slice Ao88 y175.length co88) y175) := ⟨by (with_reducible repeat first | apply Kd.R_alloc | apply Kd.R_drewN | apply Kd.R_drew); exact Kd.R_mono (Kd.R_far (p := ⟨gb184, 3, none⟩) (Kd.R_far (p := ⟨gb184, 2, none⟩) (Kd.R_far (p := ⟨gb184, 1, none⟩) (Kd.R_far (p := ⟨gb184, 0, none⟩) (Kd.R_types HO177.out BK184.out (by decide)) (fun _ hk => hk.2) (.int .i64 t178)) (fun _ hk => hk.2) (.int .i64 t179)) (fun _ hk => hk.2) (.int .i64 t180)) (fun _ hk => hk.2) (.slice Ao96 t181.length co96)) (fun _ hk => ⟨hk.1.1, hk.1.2⟩)⟩);(have n2_ : Aside0 (Kd.R k34 34 ((((w92.setCell ⟨gb184, 0, none⟩ (.int .i64 t178)).setCell ⟨gb184, 1, none⟩ (.int .i64 t179)).setCell ⟨gb184, 2, none⟩ (.int .i64 t180)).setCell ⟨gb184, 3, none⟩ (.slice Ao96 t181.length co96)) w.heap.size (fun k_ => some k_ ≠ (.slice Ao13 t144.length co13 : Value).ownBlock ∧ some k_ ≠ (.slice Ao88 y175.length co88 : Value).ownBlock) (.slice Ao96 t181.length co96) t181) := ⟨by (with_reducible repeat first | apply Kd.R_alloc | apply Kd.R_drewN | apply Kd.R_drew); exact Kd.R_mono (Kd.R_far (p := ⟨gb184, 3, none⟩) (Kd.R_far (p := ⟨gb184, 2, none⟩) (Kd.R_far (p := ⟨gb184, 1, none⟩) (Kd.R_far (p := ⟨gb184, 0, none⟩) (Kd.R_types HO183.out BK184.out (by decide)) (fun _ hk => hk.2) (.int .i64 t178)) (fun _ hk => hk.2) (.int .i64 t179)) (fun _ hk => hk.2) (.int .i64 t180)) (fun _ hk => hk.2) (.slice Ao96 t181.length co96)) (fun _ hk => ⟨hk.1.1.2, hk.1.2⟩)⟩);(have n3_ : Aside0 (((((w92.setCell ⟨gb184, 0, none⟩ (.int .i64 t178)).setCell ⟨gb184, 1, none⟩ (.int .i64 t179)).setCell ⟨gb184, 2, none⟩ (.int .i64 t180)).setCell ⟨gb184, 3, none⟩ (.slice Ao96 t181.length co96)).heap[gb147]? = some (.cells #[.int .i64 t141, .int .i64 t142, .int .i64 t143, .slice Ao13 t144.length co13] 26 (0, 0))) := ⟨by (with_reducible repeat first | refine blk_drewN ?_ _ | refine blk_drew ?_ | refine blk_alloc ?_ _); refine blk_far ?_ NB147_184.out _; (with_reducible repeat first | refine blk_drewN ?_ _ | refine blk_drew ?_ | refine blk_alloc ?_ _); refine blk_far ?_ NB147_184.out _; (with_reducible repeat first | refine blk_drewN ?_ _ | refine blk_drew ?_ | refine blk_alloc ?_ _); refine blk_far ?_ NB147_184.out _; (with_reducible repeat first | refine blk_drewN ?_ _ | refine blk_drew ?_ | refine blk_alloc ?_ _); refine blk_far ?_ NB147_184.out _; (with_reducible repeat first | refine blk_drewN ?_ _ | refine blk_drew ?_ | refine blk_alloc ?_ _); exact BK147.out⟩);(have n4_ : Aside0 (((((w92.setCell ⟨gb184, 0, none⟩ (.int .i64 t178)).setCell ⟨gb184, 1, none⟩ (.int .i64 t179)).setCell ⟨gb184, 2, none⟩ (.int .i64 t180)).setCell ⟨gb184, 3, none⟩ (.slice Ao96 t181.length co96)).heap[gb174]? = some (.cells #[.int .i64 t168, .int .i64 t169, .int .i64 t170, .slice Ao88 y175.length co88] 26 (0, 0))) := ⟨by (with_reducible repeat first | refine blk_drewN ?_ _ | refine blk_drew ?_ | refine blk_alloc ?_ _); refine blk_far ?_ NB174_184.out _; (with_reducible repeat first | refine blk_drewN ?_ _ | refine blk_drew ?_ | refine blk_alloc ?_ _); refine blk_far ?_ NB174_184.out _; (with_reducible repeat first | refine blk_drewN ?_ _ | refine blk_drew ?_ | refine blk_alloc ?_ _); refine blk_far ?_ NB174_184.out _; (with_reducible repeat first | refine blk_drewN ?_ _ | refine blk_drew ?_ | refine blk_alloc ?_ _); refine blk_far ?_ NB174_184.out _; (with_reducible repeat first | refine blk_drewN ?_ _ | refine blk_drew ?_ | refine blk_alloc ?_ _); exact BK174.out⟩);(have n5_ : Aside0 (((((w92.setCell ⟨gb184, 0, none⟩ (.int .i64 t178)).setCell ⟨gb184, 1, none⟩ (.int .i64 t179)).setCell ⟨gb184, 2, none⟩ (.int .i64 t180)).setCell ⟨gb184, 3, none⟩ (.slice Ao96 t181.length co96)).heap[gb184]? = some (.cells #[.int .i64 t178, .int .i64 t179, .int .i64 t180, .slice Ao96 t181.length co96] 26 (0, 0))) := ⟨by (with_reducible repeat first | refine blk_drewN ?_ _ | refine blk_drew ?_ | refine blk_alloc ?_ _); refine blk_put (cs := #[.int .i64 t178, .int .i64 t179, .int .i64 t180, .slice none 0 0]) ?_ 3 _ rfl; (with_reducible repeat first | refine blk_drewN ?_ _ | refine blk_drew ?_ | refine blk_alloc ?_ _); refine blk_put (cs := #[.int .i64 t178, .int .i64 t179, .int .i64 0, .slice none 0 0]) ?_ 2 _ rfl; (with_reducible repeat first | refine blk_drewN ?_ _ | refine blk_drew ?_ | refine blk_alloc ?_ _); refine blk_put (cs := #[.int .i64 t178, .int .i64 0, .int .i64 0, .slice none 0 0]) ?_ 1 _ rfl; (with_reducible repeat first | refine blk_drewN ?_ _ | refine blk_drew ?_ | refine blk_alloc ?_ _); refine blk_put (cs := #[.int .i64 0, .int .i64 0, .int .i64 0, .slice none 0 0]) ?_ 0 _ rfl; (with_reducible repeat first | refine blk_drewN ?_ _ | refine blk_drew ?_ | refine blk_alloc ?_ _); exact BK184.out⟩);(have n6_ : Aside0 (Below w.heap.size w ((((w92.setCell ⟨gb184, 0, none⟩ (.int .i64 t178)).setCell ⟨gb184, 1, none⟩ (.int .i64 t179)).setCell ⟨gb184, 2, none⟩ (.int .i64 t180)).setCell ⟨gb184, 3, none⟩ (.slice Ao96 t181.length co96))) := ⟨by repeat (first | (with_reducible first | exact HB.out | apply below_alloc | apply pw_below_drewN | apply below_drew1 | refine below_set ?_ GE147.out | refine below_set ?_ GE174.out | refine below_set ?_ GE184.out) | exact HB.out)⟩);((try clear HO_148003));((try clear HO177));((try clear HO183));((try clear BK147));((try clear BK174));((try clear BK184));((try clear HB));((try simp only [Go.Proofs.YtlkpapkcgafgeaaW.MyOpen.setCell_drewN_out]));(generalize ((((w92.setCell ⟨gb184, 0, none⟩ (.int .i64 t178)).setCell ⟨gb184, 1, none⟩ (.int .i64 t179)).setCell ⟨gb184, 2, none⟩ (.int .i64 t180)).setCell ⟨gb184, 3, none⟩ (.slice Ao96 t181.length co96)) = w97 at n0_ n1_ n2_ n3_ n4_ n5_ n6_ ⊢);(have HO_148003 := n0_);(have HO177 := n1_);(have HO183 := n2_);(have BK147 := n3_);(have BK174 := n4_);(have BK184 := n5_);(have HB := n6_);(clear n0_ n1_ n2_ n3_ n4_ n5_ n6_);((try (rw [drewN_self w97]; generalize hq_ : World.drewN w97 _ = w97; have n0_ : Aside0 (Kd.R k34 34 w97 w.heap.size (fun k_ => some k_ ≠ (.slice Ao96 t181.length co96 : Value).ownBlock ∧ some k_ ≠ (.slice Ao13 t144.length co13 : Value).ownBlock) (.slice Ao88 y175.length co88) y175) := ⟨by rw [← hq_]; exact (by (with_reducible repeat first | apply Kd.R_alloc | apply Kd.R_drewN | apply Kd.R_drew); exact Kd.R_mono HO177.out (fun _ hk => ⟨hk.2, hk.1⟩))⟩; have n1_ : Aside0 (Kd.R k34 34 w97 w.heap.size (fun k_ => some k_ ≠ (.slice Ao88 y175.length co88 : Value).ownBlock ∧ some k_ ≠ (.slice Ao13 t144.length co13 : Value).ownBlock) (.slice Ao96 t181.length co96) t181) := ⟨by rw [← hq_]; exact (by (with_reducible repeat first | apply Kd.R_alloc | apply Kd.R_drewN | apply Kd.R_drew); exact Kd.R_mono HO183.out (fun _ hk => ⟨hk.2, hk.1⟩))⟩; have n2_ : Aside0 (Kd.R k34 34 w97 w.heap.size (fun k_ => some k_ ≠ (.slice Ao88 y175.length co88 : Value).ownBlock ∧ some k_ ≠ (.slice Ao96 t181.length co96 : Value).ownBlock) (.slice Ao13 t144.length co13) t144) := ⟨by rw [← hq_]; exact (by (with_reducible repeat first | apply Kd.R_alloc | apply Kd.R_drewN | apply Kd.R_drew); exact HO_148003.out)⟩; have n3_ : Aside0 (w97.heap[gb147]? = some (.cells #[.int .i64 t141, .int .i64 t142, .int .i64 t143, .slice Ao13 t144.length co13] 26 (0, 0))) := ⟨by rw [← hq_]; exact (by (with_reducible repeat first | refine blk_drewN ?_ _ | refine blk_drew ?_ | refine blk_alloc ?_ _); exact BK147.out)⟩; have n4_ : Aside0 (w97.heap[gb174]? = some (.cells #[.int .i64 t168, .int .i64 t169, .int .i64 t170, .slice Ao88 y175.length co88] 26 (0, 0))) := ⟨by rw [← hq_]; exact (by (with_reducible repeat first | refine blk_drewN ?_ _ | refine blk_drew ?_ | refine blk_alloc ?_ _); exact BK174.out)⟩; have n5_ : Aside0 (w97.heap[gb184]? = some (.cells #[.int .i64 t178, .int .i64 t179, .int .i64 t180, .slice Ao96 t181.length co96] 26 (0, 0))) := ⟨by rw [← hq_]; exact (by (with_reducible repeat first | refine blk_drewN ?_ _ | refine blk_drew ?_ | refine blk_alloc ?_ _); exact BK184.out)⟩; have n6_ : Aside0 (Below w.heap.size w w97) := ⟨by rw [← hq_]; exact (by repeat (first | (with_reducible first | exact HB.out | apply below_alloc | apply pw_below_drewN | apply below_drew1 | refine below_set ?_ GE147.out | refine below_set ?_ GE174.out | refine below_set ?_ GE184.out) | exact HB.out))⟩; clear HO177 HO183 HO_148003 BK147 BK174 BK184 HB hq_; have HO177 := n0_; have HO183 := n1_; have HO_148003 := n2_; have BK147 := n3_; have BK174 := n4_; have BK184 := n5_; have HB := n6_; clear n0_ n1_ n2_ n3_ n4_ n5_ n6_; have hcqBK147_0 : w97.cell? ⟨gb147, 0, none⟩ = some (.int .i64 t141) := (blk_cell BK147.out 0).trans rfl; have hfqBK147_0 := blk_frozen BK147.out 0; have hcqBK147_1 : w97.cell? ⟨gb147, 1, none⟩ = some (.int .i64 t142) := (blk_cell BK147.out 1).trans rfl; have hfqBK147_1 := blk_frozen BK147.out 1; have hcqBK147_2 : w97.cell? ⟨gb147, 2, none⟩ = some (.int .i64 t143) := (blk_cell BK147.out 2).trans rfl; have hfqBK147_2 := blk_frozen BK147.out 2; have hcqBK147_3 : w97.cell? ⟨gb147, 3, none⟩ = some (.slice Ao13 t144.length co13) := (blk_cell BK147.out 3).trans rfl; have hfqBK147_3 := blk_frozen BK147.out 3; have hcqBK174_0 : w97.cell? ⟨gb174, 0, none⟩ = some (.int .i64 t168) := (blk_cell BK174.out 0).trans rfl; have hfqBK174_0 := blk_frozen BK174.out 0; have hcqBK174_1 : w97.cell? ⟨gb174, 1, none⟩ = some (.int .i64 t169) := (blk_cell BK174.out 1).trans rfl; have hfqBK174_1 := blk_frozen BK174.out 1; have hcqBK174_2 : w97.cell? ⟨gb174, 2, none⟩ = some (.int .i64 t170) := (blk_cell BK174.out 2).trans rfl; have hfqBK174_2 := blk_frozen BK174.out 2; have hcqBK174_3 : w97.cell? ⟨gb174, 3, none⟩ = some (.slice Ao88 y175.length co88) := (blk_cell BK174.out 3).trans rfl; have hfqBK174_3 := blk_frozen BK174.out 3; have hcqBK184_0 : w97.cell? ⟨gb184, 0, none⟩ = some (.int .i64 t178) := (blk_cell BK184.out 0).trans rfl; have hfqBK184_0 := blk_frozen BK184.out 0; have hcqBK184_1 : w97.cell? ⟨gb184, 1, none⟩ = some (.int .i64 t179) := (blk_cell BK184.out 1).trans rfl; have hfqBK184_1 := blk_frozen BK184.out 1; have hcqBK184_2 : w97.cell? ⟨gb184, 2, none⟩ = some (.int .i64 t180) := (blk_cell BK184.out 2).trans rfl; have hfqBK184_2 := blk_frozen BK184.out 2; have hcqBK184_3 : w97.cell? ⟨gb184, 3, none⟩ = some (.slice Ao96 t181.length co96) := (blk_cell BK184.out 3).trans rfl; have hfqBK184_3 := blk_frozen BK184.out 3)));(have n0_ := Aside0.mk (Kd.R_drew HO_148003.out));(have n1_ := Aside0.mk (Kd.R_drew HO177.out));(have n2_ := Aside0.mk (Kd.R_drew HO183.out));(have n3_ := Aside0.mk (blk_drew BK147.out));(have n4_ := Aside0.mk (blk_drew BK174.out));(have n5_ := Aside0.mk (blk_drew BK184.out));(have n6_ := Aside0.mk (below_drew1 HB.out));(clear HO_148003);(clear HO177);(clear HO183);(clear BK147);(clear BK174);(clear BK184);(clear HB);(have HO_148003 := n0_);(have HO177 := n1_);(have HO183 := n2_);(have BK147 := n3_);(have BK174 := n4_);(have BK184 := n5_);(have HB := n6_);(clear n0_ n1_ n2_ n3_ n4_ n5_ n6_);(have q99 : (t185 : Int) ≤ ((t181.length : Int) : Int) := of_decide_eq_true (by first | (with_reducible assumption) | assumption));(obtain ⟨i099, hi099, _, hsz99, _⟩ := info_parts info34);(have hroom99 : t181.length ≤ co96 := (Kd.R_reads' HO183.out).2.1);(have hC99 : Kd.C k34 _ Ao96 t181.length t181 := (Kd.R_reads' HO183.out).2.2);(have hcut99 := cut_to (P := Try.prog) 24 34 .i64 Try.underlying24 hi099 Ao96 t181.length co96 t185 (of_decide_eq_true (by first | (with_reducible assumption) | assumption)) q99 hroom99);(have hr99 := Kd.C_take (m := (t185 : Int).toNat) hC99 (by omega));(have hy99 : y189.length = (t185 : Int).toNat := (by rw [Ny189.out, List.length_take]; omega));(rw [← Ny189.out] at hr99);(rw [← hy99] at hcut99);(have HR192 := Aside0.mk hr99);(have HC192 := Aside0.mk (show y189.length ≤ co96 from by omega));(clear hr99 hC99 hroom99 hi099 hsz99);(have KY99 := Aside0.mk hy99);(clear hy99);(have KL99 := Aside0.mk (show (t185 : Int).toNat ≤ t181.length from by omega));(replace q99 := eq_true q99);(have q100 : ((ji71) : Int) ≤ ((t181.length : Int) : Int) := of_decide_eq_true (by first | (with_reducible assumption) | assumption));(obtain ⟨i0100, hi0100, _, hsz100, _⟩ := info_parts info34);(have hroom100 : t181.length ≤ co96 := (Kd.R_reads' HO183.out).2.1);(have hC100 : Kd.C k34 _ Ao96 t181.length t181 := (Kd.R_reads' HO183.out).2.2);(have q0100 : (0 : Int) ≤ ((ji71) : Int) := of_decide_eq_true (by first | (with_reducible assumption) | assumption));(have hcut100 := cut_from (P := Try.prog) 24 34 .i64 Try.underlying24 hi0100 3 hsz100 Ao96 t181.length co96 (ji71) q0100 q100);(have hr100 := Kd.C_drop (m := ((ji71) : Int).toNat) (c := co96) hC100 (by omega) hroom100);(obtain ⟨A100, hA100⟩ : ∃ A1, A1 = (if co96 = ((ji71) : Int).toNat then Ao96 else (Ao96 : Option Addr).map (·.add (((ji71) : Int).toNat * 3))) := ⟨_, rfl⟩);(obtain ⟨c100, hc100⟩ : ∃ c1, c1 = co96 - ((ji71) : Int).toNat := ⟨_, rfl⟩);(have hy100 : y196.length = t181.length - ((ji71) : Int).toNat := (by rw [Ny196.out, List.length_drop] <;> omega));(rw [show (t181).drop ((ji71) : Int).toNat = y196 from Ny196.out.symm] at hr100);(replace hr100 : Kd.C k34 _ A100 y196.length y196 := (by rw [hA100]; exact hr100));(rw [← hy100, ← hA100, ← hc100] at hcut100);(have HR199 := Aside0.mk hr100);(have HC199 := Aside0.mk (show y196.length ≤ c100 from by rw [hy100, hc100]; exact Nat.sub_le_sub_right hroom100 _));(clear hr100 hC100 hroom100 hi0100 hsz100 hc100);(have KY100 := Aside0.mk hy100);(have KA100 := Aside0.mk hA100);(clear hy100 hA100);(have KL100 := Aside0.mk (show ((ji71) : Int).toNat ≤ t181.length from by omega));(replace q100 := eq_true q100);(refine start_ (n := 14) (S := fun w' => w'.cell? ⟨gb184, 0, none⟩ = some (.int .i64 t178) ∧ w'.cell? ⟨gb184, 1, none⟩ = some (.int .i64 t179) ∧ w'.cell? ⟨gb184, 2, none⟩ = some (.int .i64 t180) ∧ w'.cell? ⟨gb184, 3, none⟩ = some (.slice Ao96 t181.length co96)) (ds := [13]) #[false, false, false, false, false, false, false, false, false, false, false, false, false, false] (by kernel_rfl) rfl rfl ⟨(blk_cell BK184.out 0).trans rfl, (blk_cell BK184.out 1).trans rfl, (blk_cell BK184.out 2).trans rfl, (blk_cell BK184.out 3).trans rfl⟩ (fun hHeld => ?_); refine with_tabW racewaylaw3_NetParts.tab27 racewaylaw3_NetParts.bits27 (fun HT_ HW_ => ?_));(generalize w97.drew = w98 at HO_148003 HO177 HO183 BK147 BK174 BK184 HB HR192 HR199 hHeld ⊢);(refine pure_ (i := 1) (N := some 152) (v := ?_) (a' := ?_) #[false, true, false, false, false, false, false, false, false, false, false, false, false, false] rfl rfl (any_of HT_.out (by kernel_rfl)) (fun _ _ _ h => h) (Or.inl ⟨by rfl, ?_⟩) ?_ ?_)
                      rotate_left
                      ·intro w'
                       go_simp
                       with_reducible rfl
                      rotate_left
                      ·simp only [Act.put, setIfInBounds_toArray, set_cons_zero, set_cons_succ, i64_w, i32_w]
                       rfl
                      refine pure_ (i := 3) (N := some 154) (v := ?_) (a' := ?_) #[false, true, false, true, false, false, false, false, false, false, false, false, false, false] rfl rfl (any_of HT_.out (by kernel_rfl)) (fun _ _ _ h => h) (Or.inl ⟨by rfl, ?_⟩) ?_ ?_
                      rotate_left
                      ·intro w'
                       go_simp
                       with_reducible rfl
                      rotate_left
                      ·simp only [Act.put, setIfInBounds_toArray, set_cons_zero, set_cons_succ, i64_w, i32_w]
                       rfl
                      refine pure_ (i := 6) (N := some 157) (v := ?_) (a' := ?_) #[false, true, false, true, false, false, true, false, false, false, false, false, false, false] rfl rfl (any_of HT_.out (by kernel_rfl)) (fun _ _ _ h => h) (Or.inl ⟨by rfl, ?_⟩) ?_ ?_
                      rotate_left
                      ·intro w'
                       go_simp
                       with_reducible rfl
                      rotate_left
                      ·simp only [Act.put, setIfInBounds_toArray, set_cons_zero, set_cons_succ, i64_w, i32_w]
                       rfl
                      refine pure_ (i := 8) (N := some 159) (v := ?_) (a' := ?_) #[false, true, false, true, false, false, true, false, true, false, false, false, false, false] rfl rfl (any_of HT_.out (by kernel_rfl)) (fun _ _ _ h => h) (Or.inl ⟨by rfl, ?_⟩) ?_ ?_
                      rotate_left
                      ·intro w'
                       go_simp
                       with_reducible rfl
                      rotate_left
                      ·simp only [Act.put, setIfInBounds_toArray, set_cons_zero, set_cons_succ, i64_w, i32_w]
                       rfl
                      refine pure_ (i := 9) (N := some 160) (v := ?_) (a' := ?_) #[false, true, false, true, false, false, true, false, true, true, false, false, false, false] rfl rfl (any_of HT_.out (by kernel_rfl)) (fun _ _ _ h => h) (Or.inl ⟨by rfl, ?_⟩) ?_ ?_
                      rotate_left
                      ·intro w'
                       go_simp
                       with_reducible rfl
                      rotate_left
                      ·simp only [Act.put, setIfInBounds_toArray, set_cons_zero, set_cons_succ, i64_w, i32_w]
                       rfl
                      refine take_ (i := 2) (N := some 153) (v := ?_) (a' := ?_) #[false, true, true, true, false, false, true, false, true, true, false, false, false, false] rfl rfl (take_ofW HT_.out HW_.out (by kernel_rfl)) (fun _ _ _ h => h) (Or.inl ⟨by rfl, ?_⟩) hHeld ?_ ?_
                      rotate_left
                      ·rintro w' ⟨s0, s1, s2, s3⟩
                       go_simp
                       with_reducible rfl
                      rotate_left
                      ·simp only [Act.put, setIfInBounds_toArray, set_cons_zero, set_cons_succ, i64_w, i32_w]
                       rfl
                      refine pure_ (i := 4) (N := some 155) (v := ?_) (a' := ?_) #[false, true, true, true, true, false, true, false, true, true, false, false, false, false] rfl rfl (any_of HT_.out (by kernel_rfl)) (fun _ _ _ h => h) (Or.inl ⟨by rfl, ?_⟩) ?_ ?_
                      rotate_left
                      ·intro w'
                       go_simp
                       with_reducible rfl
                      rotate_left
                      ·simp only [Act.put, setIfInBounds_toArray, set_cons_zero, set_cons_succ, i64_w, i32_w]
                       rfl
                      refine take_ (i := 7) (N := some 158) (v := ?_) (a' := ?_) #[false, true, true, true, true, false, true, true, true, true, false, false, false, false] rfl rfl (take_ofW HT_.out HW_.out (by kernel_rfl)) (fun _ _ _ h => h) (Or.inl ⟨by rfl, ?_⟩) hHeld ?_ ?_
                      rotate_left
                      ·rintro w' ⟨s0, s1, s2, s3⟩
                       go_simp
                       with_reducible rfl
                      rotate_left
                      ·simp only [Act.put, setIfInBounds_toArray, set_cons_zero, set_cons_succ, i64_w, i32_w]
                       rfl
                      refine pure_ (i := 10) (N := some 161) (v := ?_) (a' := ?_) #[false, true, true, true, true, false, true, true, true, true, true, false, false, false] rfl rfl (any_of HT_.out (by kernel_rfl)) (fun _ _ _ h => h) (Or.inl ⟨by rfl, ?_⟩) ?_ ?_
                      rotate_left
                      ·intro w'
                       go_simp
                       with_reducible rfl
                      rotate_left
                      ·simp only [Act.put, setIfInBounds_toArray, set_cons_zero, set_cons_succ, i64_w, i32_w]
                       rfl
                      (refine one_ (i := 0) (N := some 151) #[true, true, true, true, true, false, true, true, true, true, true, false, false, false] rfl rfl (one_of HT_.out (by kernel_rfl)) (by decide) (fun K hK => ?_));(refine Kd.R_lit_step k34 _ 34 ?hg (N := 151) ?hd (xs := ([] : List (S34))) (inner := []) (ok := fun _ => True) (okp := fun _ => True) ?hr ?hp (fun _ hk => hk) trivial (Below.refl _ _) (Nat.le_refl _) (by simp) ?_; (case hd => rfl); (case hg => rfl); (case hr => first | (go_simp; done) | (go_simp; rfl)); (case hp => exact (Reps.none _ _)));(intro v187 w101 ho102 hb hg_ hnew_);(clear hg_ hnew_);((first | rw [← Ny186.out] at ho102 | (simp only [Int.reduceToNat] at ho102; rw [← Ny186.out] at ho102)));(have n0_ := Aside0.mk (Kd.R_elder' (by (with_reducible repeat first | apply Kd.R_alloc | apply Kd.R_drewN | apply Kd.R_drew); exact HO_148003.out) (Kd.R_base ho102) hb));(have n1_ := Aside0.mk (Kd.R_elder' (by (with_reducible repeat first | apply Kd.R_alloc | apply Kd.R_drewN | apply Kd.R_drew); exact HO177.out) (Kd.R_base ho102) hb));(have n2_ := Aside0.mk (Kd.R_elder' (by (with_reducible repeat first | apply Kd.R_alloc | apply Kd.R_drewN | apply Kd.R_drew); exact HO183.out) (Kd.R_base ho102) hb));(have n3_ := Aside0.mk (Kd.R_lower (Kd.R_new' (Kd.R_new' (Kd.R_new' ho102 (Kd.R_lt (by (with_reducible repeat first | apply Kd.R_alloc | apply Kd.R_drewN | apply Kd.R_drew); exact HO_148003.out))) (Kd.R_lt (by (with_reducible repeat first | apply Kd.R_alloc | apply Kd.R_drewN | apply Kd.R_drew); exact HO177.out))) (Kd.R_lt (by (with_reducible repeat first | apply Kd.R_alloc | apply Kd.R_drewN | apply Kd.R_drew); exact HO183.out))) (below_size (by repeat (first | (with_reducible first | exact HB.out | apply below_alloc | apply pw_below_drewN | apply below_drew1 | refine below_set ?_ GE147.out | refine below_set ?_ GE174.out | refine below_set ?_ GE184.out) | exact HB.out)))));(have n4_ := Aside0.mk (blk_below (g := gb147) (o := .cells #[.int .i64 t141, .int .i64 t142, .int .i64 t143, .slice Ao13 t144.length co13] 26 (0, 0)) (by (with_reducible repeat first | refine blk_drewN ?_ _ | refine blk_drew ?_ | refine blk_alloc ?_ _); exact BK147.out) hb));(have n5_ := Aside0.mk (blk_below (g := gb174) (o := .cells #[.int .i64 t168, .int .i64 t169, .int .i64 t170, .slice Ao88 y175.length co88] 26 (0, 0)) (by (with_reducible repeat first | refine blk_drewN ?_ _ | refine blk_drew ?_ | refine blk_alloc ?_ _); exact BK174.out) hb));(have n6_ := Aside0.mk (blk_below (g := gb184) (o := .cells #[.int .i64 t178, .int .i64 t179, .int .i64 t180, .slice Ao96 t181.length co96] 26 (0, 0)) (by (with_reducible repeat first | refine blk_drewN ?_ _ | refine blk_drew ?_ | refine blk_alloc ?_ _); exact BK184.out) hb));(have n7_ := Aside0.mk (Kd.C_below (by repeat (first | (with_reducible exact HR192.out) | (with_reducible refine Kd.C_alloc ?_ _) | (with_reducible refine Kd.C_drewN ?_ _) | (with_reducible refine Kd.C_drew ?_) | exact HR192.out)) hb));(have n8_ := Aside0.mk (Kd.C_below (by repeat (first | (with_reducible exact HR199.out) | (with_reducible refine Kd.C_alloc ?_ _) | (with_reducible refine Kd.C_drewN ?_ _) | (with_reducible refine Kd.C_drew ?_) | exact HR199.out)) hb));(have n9_ := Aside0.mk (below_step (by repeat (first | (with_reducible first | exact HB.out | apply below_alloc | apply pw_below_drewN | apply below_drew1 | refine below_set ?_ GE147.out | refine below_set ?_ GE174.out | refine below_set ?_ GE184.out) | exact HB.out)) hb));(clear HO_148003);(clear HO177);(clear HO183);(clear BK147);(clear BK174);(clear BK184);(clear HR192);(clear HR199);(clear HB);(have HO_148003 := n0_);(have HO177 := n1_);(have HO183 := n2_);(have HO188 := n3_);(have BK147 := n4_);(have BK174 := n5_);(have BK184 := n6_);(have HR192 := n7_);(have HR199 := n8_);(have HB := n9_);(clear n0_ n1_ n2_ n3_ n4_ n5_ n6_ n7_ n8_ n9_);(clear hb ho102);(refine hK.out _ _ ⟨(blk_cell BK184.out 0).trans rfl, (blk_cell BK184.out 1).trans rfl, (blk_cell BK184.out 2).trans rfl, (blk_cell BK184.out 3).trans rfl⟩ (fun hHeld => ?_));(clear hK K);(refine norm_ (a' := ?_) ?_ ?_)
                      rotate_left
                      ·show Act.put _ (some 151) _ = _
                       simp only [Act.put, setIfInBounds_toArray, set_cons_zero, set_cons_succ, i64_w, i32_w]
                       rfl
                      (refine one_ (i := 5) (N := some 156) #[true, true, true, true, true, true, true, true, true, true, true, false, false, false] rfl rfl (one_of HT_.out (by kernel_rfl)) (by decide) (fun K hK => ?_));(refine Kd.R_append_rows_step k34 (w0 := w) w.heap.size (by rfl) (.tmp 151) (.tmp 155) 24 34 (.agg #[(.int .i64 0), (.int .i64 0), (.int .i64 0)]) 24 rfl Try.underlying24 info34 rfl (by decide) (by omega) v187 y186 y189 _ _ _ (fun k_ => some k_ ≠ (.slice Ao13 t144.length co13 : Value).ownBlock ∧ some k_ ≠ (.slice Ao88 y175.length co88 : Value).ownBlock ∧ some k_ ≠ (.slice Ao96 t181.length co96 : Value).ownBlock) (fun _ => False) rfl rfl ?aO ?aR (fun _ _ h => h) (fun _ h => h.elim) ?aF ?aB ?aS ?aL ?_)
                      (case aR => repeat (first | exact (by repeat (first | (with_reducible exact HR192.out) | (with_reducible refine Kd.C_alloc ?_ _) | (with_reducible refine Kd.C_drewN ?_ _) | (with_reducible refine Kd.C_drew ?_) | exact HR192.out)) | (with_reducible refine Kd.C_alloc ?_ _) | (with_reducible refine Kd.C_drewN ?_ _) | (with_reducible refine Kd.C_drew ?_)))
                      (case aB => exact (by repeat (first | (with_reducible first | exact HB.out | apply below_alloc | apply pw_below_drewN | apply below_drew1 | refine below_set ?_ GE147.out | refine below_set ?_ GE174.out | refine below_set ?_ GE184.out) | exact HB.out)))
                      (case aF => exact (fun k_ hk => ⟨Kd.fresh' (Kd.R_lt (by (with_reducible repeat first | apply Kd.R_alloc | apply Kd.R_drewN | apply Kd.R_drew); exact HO_148003.out)) k_ hk, Kd.fresh' (Kd.R_lt (by (with_reducible repeat first | apply Kd.R_alloc | apply Kd.R_drewN | apply Kd.R_drew); exact HO177.out)) k_ hk, Kd.fresh' (Kd.R_lt (by (with_reducible repeat first | apply Kd.R_alloc | apply Kd.R_drewN | apply Kd.R_drew); exact HO183.out)) k_ hk⟩))
                      (case aO => exact (by (with_reducible repeat first | apply Kd.R_alloc | apply Kd.R_drewN | apply Kd.R_drew); exact Kd.R_mono HO188.out (fun _ hk => ⟨hk.1.1.2, ⟨hk.1.2, hk.2⟩⟩)))
                      (case aS => exact (below_size (by repeat (first | (with_reducible first | exact HB.out | apply below_alloc | apply pw_below_drewN | apply below_drew1 | refine below_set ?_ GE147.out | refine below_set ?_ GE174.out | refine below_set ?_ GE184.out) | exact HB.out))))
                      (case aL => have := LMc70.out; omega)
                      (intro v194 w103 ho hb hg hat);(rw [← Ny193.out] at ho);(have n0_ := Aside0.mk (Kd.R_after (ok := (fun k_ => some k_ ≠ (.slice Ao88 y175.length co88 : Value).ownBlock ∧ some k_ ≠ (.slice Ao96 t181.length co96 : Value).ownBlock)) (by (with_reducible repeat first | apply Kd.R_alloc | apply Kd.R_drewN | apply Kd.R_drew); exact HO_148003.out) hg hat));(have n1_ := Aside0.mk (blk_grown (g := gb147) (o := .cells #[.int .i64 t141, .int .i64 t142, .int .i64 t143, .slice Ao13 t144.length co13] 26 (0, 0)) (by (with_reducible repeat first | refine blk_drewN ?_ _ | refine blk_drew ?_ | refine blk_alloc ?_ _); exact BK147.out) hg (Kd.R_ne HO188.out BK147.out (by decide))));(have n2_ := Aside0.mk (blk_grown (g := gb174) (o := .cells #[.int .i64 t168, .int .i64 t169, .int .i64 t170, .slice Ao88 y175.length co88] 26 (0, 0)) (by (with_reducible repeat first | refine blk_drewN ?_ _ | refine blk_drew ?_ | refine blk_alloc ?_ _); exact BK174.out) hg (Kd.R_ne HO188.out BK174.out (by decide))));(have n3_ := Aside0.mk (Kd.R_after (ok := (fun k_ => some k_ ≠ (.slice Ao13 t144.length co13 : Value).ownBlock ∧ some k_ ≠ (.slice Ao96 t181.length co96 : Value).ownBlock)) (by (with_reducible repeat first | apply Kd.R_alloc | apply Kd.R_drewN | apply Kd.R_drew); exact Kd.R_mono HO177.out (fun _ h_ => ⟨⟨h_.1.2, h_.1.1⟩, h_.2⟩)) hg hat));(have n4_ := Aside0.mk (Kd.R_after (ok := (fun k_ => some k_ ≠ (.slice Ao13 t144.length co13 : Value).ownBlock ∧ some k_ ≠ (.slice Ao88 y175.length co88 : Value).ownBlock)) (by (with_reducible repeat first | apply Kd.R_alloc | apply Kd.R_drewN | apply Kd.R_drew); exact Kd.R_mono HO183.out (fun _ h_ => ⟨⟨h_.1.2, h_.1.1⟩, h_.2⟩)) hg hat));(have n5_ := Aside0.mk (blk_grown (g := gb184) (o := .cells #[.int .i64 t178, .int .i64 t179, .int .i64 t180, .slice Ao96 t181.length co96] 26 (0, 0)) (by (with_reducible repeat first | refine blk_drewN ?_ _ | refine blk_drew ?_ | refine blk_alloc ?_ _); exact BK184.out) hg (Kd.R_ne HO188.out BK184.out (by decide))));(have n6_ := Aside0.mk (hb));(have n7_ := Aside0.mk ((show Kd.C k34 w103 Ao96 y189.length y189 from by rw [Ny189.out]; exact Kd.C_take (m := (t185 : Int).toNat) ((Kd.R_reads' (Kd.R_after (ok := (fun k_ => some k_ ≠ (.slice Ao13 t144.length co13 : Value).ownBlock ∧ some k_ ≠ (.slice Ao88 y175.length co88 : Value).ownBlock)) (by (with_reducible repeat first | apply Kd.R_alloc | apply Kd.R_drewN | apply Kd.R_drew); exact Kd.R_mono HO183.out (fun _ h_ => ⟨⟨h_.1.2, h_.1.1⟩, h_.2⟩)) hg hat)).2.2) KL99.out)));(have n8_ := Aside0.mk ((show Kd.C k34 w103 A100 y196.length y196 from by rw [Ny196.out, KA100.out]; exact Kd.C_drop (m := ((ji71) : Int).toNat) (c := co96) ((Kd.R_reads' (Kd.R_after (ok := (fun k_ => some k_ ≠ (.slice Ao13 t144.length co13 : Value).ownBlock ∧ some k_ ≠ (.slice Ao88 y175.length co88 : Value).ownBlock)) (by (with_reducible repeat first | apply Kd.R_alloc | apply Kd.R_drewN | apply Kd.R_drew); exact Kd.R_mono HO183.out (fun _ h_ => ⟨⟨h_.1.2, h_.1.1⟩, h_.2⟩)) hg hat)).2.2) KL100.out ((Kd.R_reads' (Kd.R_after (ok := (fun k_ => some k_ ≠ (.slice Ao13 t144.length co13 : Value).ownBlock ∧ some k_ ≠ (.slice Ao88 y175.length co88 : Value).ownBlock)) (by (with_reducible repeat first | apply Kd.R_alloc | apply Kd.R_drewN | apply Kd.R_drew); exact Kd.R_mono HO183.out (fun _ h_ => ⟨⟨h_.1.2, h_.1.1⟩, h_.2⟩)) hg hat)).2.1))));(have n9_ := Aside0.mk (ho));(clear HO_148003);(clear BK147);(clear BK174);(clear HO177);(clear HO183);(clear BK184);(clear HB);(clear HR192);(clear HR199);(clear HO188);(have HO_148003 := n0_);(have BK147 := n1_);(have BK174 := n2_);(have HO177 := n3_);(have HO183 := n4_);(have BK184 := n5_);(have HB := n6_);(have HR192 := n7_);(have HR199 := n8_);(have HO195 := n9_);(clear n0_ n1_ n2_ n3_ n4_ n5_ n6_ n7_ n8_ n9_);(clear ho hb hg hat);(refine hK.out _ _ ⟨(blk_cell BK184.out 0).trans rfl, (blk_cell BK184.out 1).trans rfl, (blk_cell BK184.out 2).trans rfl, (blk_cell BK184.out 3).trans rfl⟩ (fun hHeld => ?_));(clear hK K);(refine norm_ (a' := ?_) ?_ ?_)
                      rotate_left
                      ·show Act.put _ (some 156) _ = _
                       simp only [Act.put, setIfInBounds_toArray, set_cons_zero, set_cons_succ, i64_w, i32_w]
                       rfl
                      (refine one_ (i := 11) (N := some 162) #[true, true, true, true, true, true, true, true, true, true, true, true, false, false] rfl rfl (one_of HT_.out (by kernel_rfl)) (by decide) (fun K hK => ?_));(refine Kd.R_append_rows_step k34 (w0 := w) w.heap.size (by rfl) (.tmp 156) (.tmp 161) 24 34 (.agg #[(.int .i64 0), (.int .i64 0), (.int .i64 0)]) 24 rfl Try.underlying24 info34 rfl (by decide) (by omega) v194 y193 y196 _ _ _ (fun k_ => some k_ ≠ (.slice Ao13 t144.length co13 : Value).ownBlock ∧ some k_ ≠ (.slice Ao88 y175.length co88 : Value).ownBlock ∧ some k_ ≠ (.slice Ao96 t181.length co96 : Value).ownBlock) (fun _ => False) rfl rfl ?aO ?aR (fun _ _ h => h) (fun _ h => h.elim) ?aF ?aB ?aS ?aL ?_)
                      (case aR => repeat (first | exact (by repeat (first | (with_reducible exact HR199.out) | (with_reducible refine Kd.C_alloc ?_ _) | (with_reducible refine Kd.C_drewN ?_ _) | (with_reducible refine Kd.C_drew ?_) | exact HR199.out)) | (with_reducible refine Kd.C_alloc ?_ _) | (with_reducible refine Kd.C_drewN ?_ _) | (with_reducible refine Kd.C_drew ?_)))
                      (case aB => exact (by repeat (first | (with_reducible first | exact HB.out | apply below_alloc | apply pw_below_drewN | apply below_drew1 | refine below_set ?_ GE147.out | refine below_set ?_ GE174.out | refine below_set ?_ GE184.out) | exact HB.out)))
                      (case aF => exact (fun k_ hk => ⟨Kd.fresh' (Kd.R_lt (by (with_reducible repeat first | apply Kd.R_alloc | apply Kd.R_drewN | apply Kd.R_drew); exact HO_148003.out)) k_ hk, Kd.fresh' (Kd.R_lt (by (with_reducible repeat first | apply Kd.R_alloc | apply Kd.R_drewN | apply Kd.R_drew); exact HO177.out)) k_ hk, Kd.fresh' (Kd.R_lt (by (with_reducible repeat first | apply Kd.R_alloc | apply Kd.R_drewN | apply Kd.R_drew); exact HO183.out)) k_ hk⟩))
                      (case aO => exact (by (with_reducible repeat first | apply Kd.R_alloc | apply Kd.R_drewN | apply Kd.R_drew); exact HO195.out))
                      (case aS => exact (below_size (by repeat (first | (with_reducible first | exact HB.out | apply below_alloc | apply pw_below_drewN | apply below_drew1 | refine below_set ?_ GE147.out | refine below_set ?_ GE174.out | refine below_set ?_ GE184.out) | exact HB.out))))
                      (case aL => have := LMc74.out; omega)
                      (intro v201 w104 ho hb hg hat);(rw [← Ny200.out] at ho);(have n0_ := Aside0.mk (Kd.R_after (ok := (fun k_ => some k_ ≠ (.slice Ao88 y175.length co88 : Value).ownBlock ∧ some k_ ≠ (.slice Ao96 t181.length co96 : Value).ownBlock)) (by (with_reducible repeat first | apply Kd.R_alloc | apply Kd.R_drewN | apply Kd.R_drew); exact HO_148003.out) hg hat));(have n1_ := Aside0.mk (blk_grown (g := gb147) (o := .cells #[.int .i64 t141, .int .i64 t142, .int .i64 t143, .slice Ao13 t144.length co13] 26 (0, 0)) (by (with_reducible repeat first | refine blk_drewN ?_ _ | refine blk_drew ?_ | refine blk_alloc ?_ _); exact BK147.out) hg (Kd.R_ne HO195.out BK147.out (by decide))));(have n2_ := Aside0.mk (blk_grown (g := gb174) (o := .cells #[.int .i64 t168, .int .i64 t169, .int .i64 t170, .slice Ao88 y175.length co88] 26 (0, 0)) (by (with_reducible repeat first | refine blk_drewN ?_ _ | refine blk_drew ?_ | refine blk_alloc ?_ _); exact BK174.out) hg (Kd.R_ne HO195.out BK174.out (by decide))));(have n3_ := Aside0.mk (Kd.R_after (ok := (fun k_ => some k_ ≠ (.slice Ao13 t144.length co13 : Value).ownBlock ∧ some k_ ≠ (.slice Ao96 t181.length co96 : Value).ownBlock)) (by (with_reducible repeat first | apply Kd.R_alloc | apply Kd.R_drewN | apply Kd.R_drew); exact HO177.out) hg hat));(have n4_ := Aside0.mk (Kd.R_after (ok := (fun k_ => some k_ ≠ (.slice Ao13 t144.length co13 : Value).ownBlock ∧ some k_ ≠ (.slice Ao88 y175.length co88 : Value).ownBlock)) (by (with_reducible repeat first | apply Kd.R_alloc | apply Kd.R_drewN | apply Kd.R_drew); exact HO183.out) hg hat));(have n5_ := Aside0.mk (blk_grown (g := gb184) (o := .cells #[.int .i64 t178, .int .i64 t179, .int .i64 t180, .slice Ao96 t181.length co96] 26 (0, 0)) (by (with_reducible repeat first | refine blk_drewN ?_ _ | refine blk_drew ?_ | refine blk_alloc ?_ _); exact BK184.out) hg (Kd.R_ne HO195.out BK184.out (by decide))));(have n6_ := Aside0.mk (hb));(have n7_ := Aside0.mk ((show Kd.C k34 w104 Ao96 y189.length y189 from by rw [Ny189.out]; exact Kd.C_take (m := (t185 : Int).toNat) ((Kd.R_reads' (Kd.R_after (ok := (fun k_ => some k_ ≠ (.slice Ao13 t144.length co13 : Value).ownBlock ∧ some k_ ≠ (.slice Ao88 y175.length co88 : Value).ownBlock)) (by (with_reducible repeat first | apply Kd.R_alloc | apply Kd.R_drewN | apply Kd.R_drew); exact HO183.out) hg hat)).2.2) KL99.out)));(have n8_ := Aside0.mk ((show Kd.C k34 w104 A100 y196.length y196 from by rw [Ny196.out, KA100.out]; exact Kd.C_drop (m := ((ji71) : Int).toNat) (c := co96) ((Kd.R_reads' (Kd.R_after (ok := (fun k_ => some k_ ≠ (.slice Ao13 t144.length co13 : Value).ownBlock ∧ some k_ ≠ (.slice Ao88 y175.length co88 : Value).ownBlock)) (by (with_reducible repeat first | apply Kd.R_alloc | apply Kd.R_drewN | apply Kd.R_drew); exact HO183.out) hg hat)).2.2) KL100.out ((Kd.R_reads' (Kd.R_after (ok := (fun k_ => some k_ ≠ (.slice Ao13 t144.length co13 : Value).ownBlock ∧ some k_ ≠ (.slice Ao88 y175.length co88 : Value).ownBlock)) (by (with_reducible repeat first | apply Kd.R_alloc | apply Kd.R_drewN | apply Kd.R_drew); exact HO183.out) hg hat)).2.1))));(have n9_ := Aside0.mk (ho));(clear HO_148003);(clear BK147);(clear BK174);(clear HO177);(clear HO183);(clear BK184);(clear HB);(clear HR192);(clear HR199);(clear HO195);(have HO_148003 := n0_);(have BK147 := n1_);(have BK174 := n2_);(have HO177 := n3_);(have HO183 := n4_);(have BK184 := n5_);(have HB := n6_);(have HR192 := n7_);(have HR199 := n8_);(have HO202 := n9_);(clear n0_ n1_ n2_ n3_ n4_ n5_ n6_ n7_ n8_ n9_);(clear ho hb hg hat);(obtain ⟨Ao105, co105, eo105⟩ := Kd.R_slice HO202.out);((first | subst eo105 | (injection eo105 with f1_ f2_ f3_; have f4_ := f1_.symm; have f5_ := f3_.symm; clear f1_ f2_ f3_; subst f4_; subst f5_)));(refine hK.out _ _ ⟨(blk_cell BK184.out 0).trans rfl, (blk_cell BK184.out 1).trans rfl, (blk_cell BK184.out 2).trans rfl, (blk_cell BK184.out 3).trans rfl⟩ (fun hHeld => ?_));(clear hK K);(refine norm_ (a' := ?_) ?_ ?_)
                      rotate_left
                      ·show Act.put _ (some 162) _ = _
                       simp only [Act.put, setIfInBounds_toArray, set_cons_zero, set_cons_succ, i64_w, i32_w]
                       rfl
                      refine pure_ (i := 12) (N := some 163) (v := ?_) (a' := ?_) #[true, true, true, true, true, true, true, true, true, true, true, true, true, false] rfl rfl (any_of HT_.out (by kernel_rfl)) (fun _ _ _ h => h) (Or.inl ⟨by rfl, ?_⟩) ?_ ?_
                      rotate_left
                      ·intro w'
                       go_simp
                       with_reducible rfl
                      rotate_left
                      ·simp only [Act.put, setIfInBounds_toArray, set_cons_zero, set_cons_succ, i64_w, i32_w]
                       rfl
                      (refine last_ (i := 13) (N := none) #[true, true, true, true, true, true, true, true, true, true, true, true, true, true] rfl rfl (one_of HT_.out (by kernel_rfl)) (by decide) (fun K hK => ?_));(have hs106 : w104.cell? ⟨gb184, 3, none⟩ = some (.slice Ao96 t181.length co96) := (blk_cell BK184.out 3).trans rfl);(have hfs106 := blk_frozen BK184.out 3);(have hns106_0 := NB147_184.out);(have hns106_1 := NB174_184.out);(have hms106_0 := NB184_147.out);(have hms106_1 := NB184_174.out);(refine skip_ (w1 := ?_) (by rfl) rfl ?_ ?_)
                      rotate_left
                      ·go_simp
                       rfl
                      (refine hK.out _ _ ?_);(clear hK K);(refine done_ (done_of HT_.out (by kernel_rfl)) ?_);(have hcz107_0 : w104.cell? ⟨gb174, 0, none⟩ = some (.int .i64 t168) := (blk_cell BK174.out 0).trans rfl);(have hcz107_1 : w104.cell? ⟨gb174, 1, none⟩ = some (.int .i64 t169) := (blk_cell BK174.out 1).trans rfl);(have hcz107_2 : w104.cell? ⟨gb174, 2, none⟩ = some (.int .i64 t170) := (blk_cell BK174.out 2).trans rfl);(have hcz107_3 : w104.cell? ⟨gb174, 3, none⟩ = some (.slice Ao88 y175.length co88) := (blk_cell BK174.out 3).trans rfl);(have hfz107_0 := blk_frozen BK174.out 0);(have hfz107_1 := blk_frozen BK174.out 1);(have hfz107_2 := blk_frozen BK174.out 2);(have hfz107_3 := blk_frozen BK174.out 3)
                      try go_wp2_with (first | ((with_reducible refine gate_callee (f := 7) rfl ?_); refine goesL_ (some 165) rfl rfl Try.func7 (by kernel_rfl) rfl #[.agg #[.int .i64 t168, .int .i64 t169, .int .i64 t170, .slice Ao88 y175.length co88]] rfl (by (try simp only [List.map_toArray, List.map_cons, List.map_nil]); first | done | rfl | (simp only [List.length_drop, List.length_take]; rfl)) ?_; (with_reducible refine (net_Check.calls t168 t169 t170 _ _ y175 t203 _ ?side1 ?side2 A75.out).mono ?_); (case side1 => refine (Kd.R_reads' (e := 34) (base := w.heap.size) (ok := fun k_ => ((some k_ ≠ (.slice Ao13 t144.length co13 : Value).ownBlock ∧ some k_ ≠ (.slice Ao96 t181.length co96 : Value).ownBlock) ∧ some k_ ≠ (.slice Ao105 y200.length co105 : Value).ownBlock)) (n := y175.length) (c := co88) ?_).2.2; exact (by (with_reducible repeat first | apply Kd.R_alloc | apply Kd.R_drewN | apply Kd.R_drew); exact (Kd.R_mono (Kd.R_far (p := ⟨gb184, 3, none⟩) (Kd.R_types HO177.out BK184.out (by decide)) (fun _ hk => hk.2) (.slice Ao105 y200.length co105)) (fun _ h_ => h_.1)))); (case side2 => exact (Kd.R_reads' HO177.out).2.1); rintro e w108 ⟨rfl, hb⟩; refine ⟨_, rfl, ?_⟩; have n0_ := Aside0.mk (Kd.R_below (by (with_reducible repeat first | apply Kd.R_alloc | apply Kd.R_drewN | apply Kd.R_drew); exact (Kd.R_mono (Kd.R_far (p := ⟨gb184, 3, none⟩) (Kd.R_types HO_148003.out BK184.out (by decide)) (fun _ hk => hk.2) (.slice Ao105 y200.length co105)) (fun _ h_ => h_.1))) hb); have n1_ := Aside0.mk (Kd.R_below (by (with_reducible repeat first | apply Kd.R_alloc | apply Kd.R_drewN | apply Kd.R_drew); exact (Kd.R_mono (Kd.R_far (p := ⟨gb184, 3, none⟩) (Kd.R_types HO177.out BK184.out (by decide)) (fun _ hk => hk.2) (.slice Ao105 y200.length co105)) (fun _ h_ => h_.1))) hb); have n2_ := Aside0.mk (Kd.R_below (by (with_reducible repeat first | apply Kd.R_alloc | apply Kd.R_drewN | apply Kd.R_drew); exact (Kd.R_mono (Kd.R_far (p := ⟨gb184, 3, none⟩) (Kd.R_types HO183.out BK184.out (by decide)) (fun _ hk => hk.2) (.slice Ao105 y200.length co105)) (fun _ h_ => h_.1))) hb); have n3_ := Aside0.mk (Kd.R_below (by (with_reducible repeat first | apply Kd.R_alloc | apply Kd.R_drewN | apply Kd.R_drew); exact (Kd.R_mono (Kd.R_far (p := ⟨gb184, 3, none⟩) (Kd.R_types HO202.out BK184.out (by decide)) (fun _ hk => hk.2) (.slice Ao105 y200.length co105)) (fun _ h_ => h_.1))) hb); have n4_ := Aside0.mk (blk_below (g := gb147) (o := .cells #[.int .i64 t141, .int .i64 t142, .int .i64 t143, .slice Ao13 t144.length co13] 26 (0, 0)) (by (with_reducible repeat first | refine blk_drewN ?_ _ | refine blk_drew ?_ | refine blk_alloc ?_ _); refine blk_far ?_ NB147_184.out _; (with_reducible repeat first | refine blk_drewN ?_ _ | refine blk_drew ?_ | refine blk_alloc ?_ _); exact BK147.out) hb); have n5_ := Aside0.mk (blk_below (g := gb174) (o := .cells #[.int .i64 t168, .int .i64 t169, .int .i64 t170, .slice Ao88 y175.length co88] 26 (0, 0)) (by (with_reducible repeat first | refine blk_drewN ?_ _ | refine blk_drew ?_ | refine blk_alloc ?_ _); refine blk_far ?_ NB174_184.out _; (with_reducible repeat first | refine blk_drewN ?_ _ | refine blk_drew ?_ | refine blk_alloc ?_ _); exact BK174.out) hb); have n6_ := Aside0.mk (blk_below (g := gb184) (o := .cells #[.int .i64 t178, .int .i64 t179, .int .i64 t180, .slice Ao105 y200.length co105] 26 (0, 0)) (by (with_reducible repeat first | refine blk_drewN ?_ _ | refine blk_drew ?_ | refine blk_alloc ?_ _); refine blk_put (cs := #[.int .i64 t178, .int .i64 t179, .int .i64 t180, .slice Ao96 t181.length co96]) ?_ 3 _ rfl; (with_reducible repeat first | refine blk_drewN ?_ _ | refine blk_drew ?_ | refine blk_alloc ?_ _); exact BK184.out) hb); have n7_ := Aside0.mk (below_step (by repeat (first | (with_reducible first | exact HB.out | apply below_alloc | apply pw_below_drewN | apply below_drew1 | refine below_set ?_ GE147.out | refine below_set ?_ GE174.out | refine below_set ?_ GE184.out) | exact HB.out)) hb); clear HO_148003; clear HO177; clear HO183; clear HO202; clear BK147; clear BK174; clear BK184; clear HB; have HO_148003 := n0_; have HO177 := n1_; have HO183 := n2_; have HO202 := n3_; have BK147 := n4_; have BK174 := n5_; have BK184 := n6_; have HB := n7_; clear n0_ n1_ n2_ n3_ n4_ n5_ n6_ n7_; (try clear hb); (try clear hb2); (try clear hk); (try clear hi); have hcz109_0 : w108.cell? ⟨gb184, 0, none⟩ = some (.int .i64 t178) := (blk_cell BK184.out 0).trans rfl; have hcz109_1 : w108.cell? ⟨gb184, 1, none⟩ = some (.int .i64 t179) := (blk_cell BK184.out 1).trans rfl; have hcz109_2 : w108.cell? ⟨gb184, 2, none⟩ = some (.int .i64 t180) := (blk_cell BK184.out 2).trans rfl; have hcz109_3 : w108.cell? ⟨gb184, 3, none⟩ = some (.slice Ao105 y200.length co105) := (blk_cell BK184.out 3).trans rfl; have hfz109_0 := blk_frozen BK184.out 0; have hfz109_1 := blk_frozen BK184.out 1; have hfz109_2 := blk_frozen BK184.out 2; have hfz109_3 := blk_frozen BK184.out 3) | (go_at_call 7; (with_reducible refine (net_Check.calls t178 t179 t180 _ _ y200 t204 _ ?side1 ?side2 A77.out).mono ?_); (case side1 => repeat (first | exact (Kd.R_reads' HO202.out).2.2 | (with_reducible refine Kd.C_alloc ?_ _) | (with_reducible refine Kd.C_drewN ?_ _) | (with_reducible refine Kd.C_drew ?_))); (case side2 => exact (Kd.R_reads' HO202.out).2.1); rintro e w110 ⟨rfl, hb⟩; have n0_ := Aside0.mk (Kd.R_below (by (with_reducible repeat first | apply Kd.R_alloc | apply Kd.R_drewN | apply Kd.R_drew); exact HO_148003.out) hb); have n1_ := Aside0.mk (Kd.R_below (by (with_reducible repeat first | apply Kd.R_alloc | apply Kd.R_drewN | apply Kd.R_drew); exact HO177.out) hb); have n2_ := Aside0.mk (Kd.R_below (by (with_reducible repeat first | apply Kd.R_alloc | apply Kd.R_drewN | apply Kd.R_drew); exact HO183.out) hb); have n3_ := Aside0.mk (Kd.R_below (by (with_reducible repeat first | apply Kd.R_alloc | apply Kd.R_drewN | apply Kd.R_drew); exact HO202.out) hb); have n4_ := Aside0.mk (blk_below (g := gb147) (o := .cells #[.int .i64 t141, .int .i64 t142, .int .i64 t143, .slice Ao13 t144.length co13] 26 (0, 0)) (by (with_reducible repeat first | refine blk_drewN ?_ _ | refine blk_drew ?_ | refine blk_alloc ?_ _); exact BK147.out) hb); have n5_ := Aside0.mk (blk_below (g := gb174) (o := .cells #[.int .i64 t168, .int .i64 t169, .int .i64 t170, .slice Ao88 y175.length co88] 26 (0, 0)) (by (with_reducible repeat first | refine blk_drewN ?_ _ | refine blk_drew ?_ | refine blk_alloc ?_ _); exact BK174.out) hb); have n6_ := Aside0.mk (blk_below (g := gb184) (o := .cells #[.int .i64 t178, .int .i64 t179, .int .i64 t180, .slice Ao105 y200.length co105] 26 (0, 0)) (by (with_reducible repeat first | refine blk_drewN ?_ _ | refine blk_drew ?_ | refine blk_alloc ?_ _); exact BK184.out) hb); have n7_ := Aside0.mk (below_step (by repeat (first | (with_reducible first | exact HB.out | apply below_alloc | apply pw_below_drewN | apply below_drew1 | refine below_set ?_ GE147.out | refine below_set ?_ GE174.out | refine below_set ?_ GE184.out) | exact HB.out)) hb); clear HO_148003; clear HO177; clear HO183; clear HO202; clear BK147; clear BK174; clear BK184; clear HB; have HO_148003 := n0_; have HO177 := n1_; have HO183 := n2_; have HO202 := n3_; have BK147 := n4_; have BK174 := n5_; have BK184 := n6_; have HB := n7_; clear n0_ n1_ n2_ n3_ n4_ n5_ n6_ n7_; (try clear hb); (try clear hb2); (try clear hk); (try clear hi); have hcz111_0 : w110.cell? ⟨gb174, 0, none⟩ = some (.int .i64 t168) := (blk_cell BK174.out 0).trans rfl; have hcz111_1 : w110.cell? ⟨gb174, 1, none⟩ = some (.int .i64 t169) := (blk_cell BK174.out 1).trans rfl; have hcz111_2 : w110.cell? ⟨gb174, 2, none⟩ = some (.int .i64 t170) := (blk_cell BK174.out 2).trans rfl; have hcz111_3 : w110.cell? ⟨gb174, 3, none⟩ = some (.slice Ao88 y175.length co88) := (blk_cell BK174.out 3).trans rfl; have hfz111_0 := blk_frozen BK174.out 0; have hfz111_1 := blk_frozen BK174.out 1; have hfz111_2 := blk_frozen BK174.out 2; have hfz111_3 := blk_frozen BK174.out 3; have hcz112_0 : w110.cell? ⟨gb147, 0, none⟩ = some (.int .i64 t141) := (blk_cell BK147.out 0).trans rfl; have hcz112_1 : w110.cell? ⟨gb147, 1, none⟩ = some (.int .i64 t142) := (blk_cell BK147.out 1).trans rfl; have hcz112_2 : w110.cell? ⟨gb147, 2, none⟩ = some (.int .i64 t143) := (blk_cell BK147.out 2).trans rfl; have hcz112_3 : w110.cell? ⟨gb147, 3, none⟩ = some (.slice Ao13 t144.length co13) := (blk_cell BK147.out 3).trans rfl; have hfz112_0 := blk_frozen BK147.out 0; have hfz112_1 := blk_frozen BK147.out 1; have hfz112_2 := blk_frozen BK147.out 2; have hfz112_3 := blk_frozen BK147.out 3) | (go_at_call 8; (with_reducible refine (net_Same.calls t168 t169 t170 _ _ y175 t141 t142 t143 _ _ t144 t205 _ ?side1 ?side2 ?side3 ?side4 A79.out).mono ?_); (case side1 => repeat (first | exact (Kd.R_reads' HO177.out).2.2 | (with_reducible refine Kd.C_alloc ?_ _) | (with_reducible refine Kd.C_drewN ?_ _) | (with_reducible refine Kd.C_drew ?_))); (case side2 => exact (Kd.R_reads' HO177.out).2.1); (case side3 => repeat (first | exact (Kd.R_reads' HO_148003.out).2.2 | (with_reducible refine Kd.C_alloc ?_ _) | (with_reducible refine Kd.C_drewN ?_ _) | (with_reducible refine Kd.C_drew ?_))); (case side4 => exact (Kd.R_reads' HO_148003.out).2.1); rintro e w113 ⟨rfl, hb⟩; have n0_ := Aside0.mk (Kd.R_below (by (with_reducible repeat first | apply Kd.R_alloc | apply Kd.R_drewN | apply Kd.R_drew); exact HO_148003.out) hb); have n1_ := Aside0.mk (Kd.R_below (by (with_reducible repeat first | apply Kd.R_alloc | apply Kd.R_drewN | apply Kd.R_drew); exact HO177.out) hb); have n2_ := Aside0.mk (Kd.R_below (by (with_reducible repeat first | apply Kd.R_alloc | apply Kd.R_drewN | apply Kd.R_drew); exact HO183.out) hb); have n3_ := Aside0.mk (Kd.R_below (by (with_reducible repeat first | apply Kd.R_alloc | apply Kd.R_drewN | apply Kd.R_drew); exact HO202.out) hb); have n4_ := Aside0.mk (blk_below (g := gb147) (o := .cells #[.int .i64 t141, .int .i64 t142, .int .i64 t143, .slice Ao13 t144.length co13] 26 (0, 0)) (by (with_reducible repeat first | refine blk_drewN ?_ _ | refine blk_drew ?_ | refine blk_alloc ?_ _); exact BK147.out) hb); have n5_ := Aside0.mk (blk_below (g := gb174) (o := .cells #[.int .i64 t168, .int .i64 t169, .int .i64 t170, .slice Ao88 y175.length co88] 26 (0, 0)) (by (with_reducible repeat first | refine blk_drewN ?_ _ | refine blk_drew ?_ | refine blk_alloc ?_ _); exact BK174.out) hb); have n6_ := Aside0.mk (blk_below (g := gb184) (o := .cells #[.int .i64 t178, .int .i64 t179, .int .i64 t180, .slice Ao105 y200.length co105] 26 (0, 0)) (by (with_reducible repeat first | refine blk_drewN ?_ _ | refine blk_drew ?_ | refine blk_alloc ?_ _); exact BK184.out) hb); have n7_ := Aside0.mk (below_step (by repeat (first | (with_reducible first | exact HB.out | apply below_alloc | apply pw_below_drewN | apply below_drew1 | refine below_set ?_ GE147.out | refine below_set ?_ GE174.out | refine below_set ?_ GE184.out) | exact HB.out)) hb); clear HO_148003; clear HO177; clear HO183; clear HO202; clear BK147; clear BK174; clear BK184; clear HB; have HO_148003 := n0_; have HO177 := n1_; have HO183 := n2_; have HO202 := n3_; have BK147 := n4_; have BK174 := n5_; have BK184 := n6_; have HB := n7_; clear n0_ n1_ n2_ n3_ n4_ n5_ n6_ n7_; (try clear hb); (try clear hb2); (try clear hk); (try clear hi)))
                      go_ret
                      exact ⟨by first | rfl | (simp [errW_none, errW_some] <;> rfl) | (simp only [← hji71]; first | rfl | (simp [errW_none, errW_some] <;> rfl)) | (simp [*, errW_none, errW_some] <;> rfl), by repeat (first | (with_reducible first | exact HB.out | apply below_alloc | apply pw_below_drewN | apply below_drew1 | refine below_set ?_ GE147.out | refine below_set ?_ GE174.out | refine below_set ?_ GE184.out) | exact HB.out)⟩
                    ·(rw [if_neg c78] at H);(have c78b0 : (t204 == 0) = false := beq_eq_false_iff_ne.mpr c78);(have c78b1 : (t204 != 0) = true := bne_iff_ne.mpr c78);(exact absurd ((Option.some.inj H).trans hrT_.out) (by simp))
                   ·(rw [if_neg c76] at H);(have c76b0 : (t203 == 0) = false := beq_eq_false_iff_ne.mpr c76);(have c76b1 : (t203 != 0) = true := bne_iff_ne.mpr c76);(exact absurd ((Option.some.inj H).trans hrT_.out) (by simp))
                  ·(rw [if_neg c74] at H);(exact absurd H (by simp))
                 ·(rw [if_neg c73] at H);(exact absurd H (by simp))
                ·(rw [if_neg c72] at H);(exact absurd H (by simp))
               ·(rw [if_neg c70] at H);(exact absurd H (by simp))
              ·(rw [if_neg c69] at H);(exact absurd H (by simp))
             ·(rw [if_neg c68] at H);(exact absurd H (by simp))
            ·(rw [if_neg c66] at H);(have c66b0 : decide (0 < (l2.length : Int)) = false := decide_eq_false c66);(have c66b1 : decide (0 < l2.length) = false := decide_eq_false (by omega));(clear c66);(replace H := Option.bind_eq_some_iff.mp H);(obtain ⟨t206, A1140, H⟩ := H);(replace H : (if t206 = 0 then ((net_Check.f t178 t179 t180 t181).bind fun t207 => (if t207 = 0 then ((net_Same.f t168 t169 t170 y175 t141 t142 t143 t144).bind fun t208 => (some (!t208))) else (some false))) else (some false)) = some r := H);(have A114 := Aside0.mk A1140);(clear A1140)
             by_cases c115 : t206 = 0
             ·(rw [if_pos c115] at H);(have c115b0 : (t206 == 0) = true := beq_iff_eq.mpr c115);(have c115b1 : (t206 != 0) = false := bne_eq_false_iff_eq.mpr c115);(clear c115);(replace H := Option.bind_eq_some_iff.mp H);(obtain ⟨t207, A1160, H⟩ := H);(replace H : (if t207 = 0 then ((net_Same.f t168 t169 t170 y175 t141 t142 t143 t144).bind fun t208 => (some (!t208))) else (some false)) = some r := H);(have A116 := Aside0.mk A1160);(clear A1160)
              by_cases c117 : t207 = 0
              ·(rw [if_pos c117] at H);(have c117b0 : (t207 == 0) = true := beq_iff_eq.mpr c117);(have c117b1 : (t207 != 0) = false := bne_eq_false_iff_eq.mpr c117);(clear c117);(replace H := Option.bind_eq_some_iff.mp H);(obtain ⟨t208, A1180, H⟩ := H);(replace H : (some (!t208)) = some r := H);(have A118 := Aside0.mk A1180);(clear A1180)
               as_aux_lemma =>
                (obtain rfl := Option.some.inj H);(have hcz119_0 : wc.cell? ⟨gb147, 0, none⟩ = some (.int .i64 t141) := (blk_cell BK147.out 0).trans rfl);(have hcz119_1 : wc.cell? ⟨gb147, 1, none⟩ = some (.int .i64 t142) := (blk_cell BK147.out 1).trans rfl);(have hcz119_2 : wc.cell? ⟨gb147, 2, none⟩ = some (.int .i64 t143) := (blk_cell BK147.out 2).trans rfl);(have hcz119_3 : wc.cell? ⟨gb147, 3, none⟩ = some (.slice Ao13 t144.length co13) := (blk_cell BK147.out 3).trans rfl);(have hfz119_0 := blk_frozen BK147.out 0);(have hfz119_1 := blk_frozen BK147.out 1);(have hfz119_2 := blk_frozen BK147.out 2);(have hfz119_3 := blk_frozen BK147.out 3)
                go_wp2_with (first | ((with_reducible refine gate_callee (f := 11) rfl ?_); refine goesL_ (some 130) rfl rfl Try.func11 (by kernel_rfl) rfl #[.agg #[.int .i64 t141, .int .i64 t142, .int .i64 t143, .slice Ao13 t144.length co13]] rfl (by (try simp only [List.map_toArray, List.map_cons, List.map_nil]); first | done | rfl | (simp only [List.length_drop, List.length_take]; rfl)) ?_; (with_reducible refine (net_Copy.calls t141 t142 t143 _ _ t144 t168 t169 t170 t171 _ ?side1 ?side2 A63.out).mono ?_); (case side1 => repeat (first | exact (Kd.R_reads' HO_148003.out).2.2 | (with_reducible refine Kd.C_alloc ?_ _) | (with_reducible refine Kd.C_drewN ?_ _) | (with_reducible refine Kd.C_drew ?_))); (case side2 => exact (Kd.R_reads' HO_148003.out).2.1); rintro e w120 ⟨v172, rfl, ho0, hb⟩; refine ⟨_, rfl, ?_⟩; have n0_ := Aside0.mk (Kd.R_elder' (by (with_reducible repeat first | apply Kd.R_alloc | apply Kd.R_drewN | apply Kd.R_drew); exact HO_148003.out) (Kd.R_base ho0) hb); have n1_ := Aside0.mk (Kd.R_lower (Kd.R_new' ho0 (Kd.R_lt (by (with_reducible repeat first | apply Kd.R_alloc | apply Kd.R_drewN | apply Kd.R_drew); exact HO_148003.out))) (below_size (by repeat (first | (with_reducible first | exact HB.out | apply below_alloc | apply pw_below_drewN | apply below_drew1 | refine below_set ?_ GE147.out) | exact HB.out)))); have n2_ := Aside0.mk (blk_below (g := gb147) (o := .cells #[.int .i64 t141, .int .i64 t142, .int .i64 t143, .slice Ao13 t144.length co13] 26 (0, 0)) (by (with_reducible repeat first | refine blk_drewN ?_ _ | refine blk_drew ?_ | refine blk_alloc ?_ _); exact BK147.out) hb); have n3_ := Aside0.mk (below_step (by repeat (first | (with_reducible first | exact HB.out | apply below_alloc | apply pw_below_drewN | apply below_drew1 | refine below_set ?_ GE147.out) | exact HB.out)) hb); clear HO_148003; clear BK147; clear HB; have HO_148003 := n0_; have HO173 := n1_; have BK147 := n2_; have HB := n3_; clear n0_ n1_ n2_ n3_; (try clear hb); (try clear hb2); (try clear hk); (try clear hi); (try clear ho0)) | ((with_reducible refine gate_dst (N := 16) rfl ?_); (try (refine gate_guard (by rfl) ?_; dsimp only)); refine box_event ?hg (N := 16) ?hd (cs := #[.int .i64 0, .int .i64 0, .int .i64 0, .slice none 0 0]) (t := 26) ?hr ?_; (case hd => rfl); (case hg => rfl); (case hr => first | (go_simp; done) | (go_simp; rfl)); intro gb174 hg w121 hbox hb; have n0_ := Aside0.mk (Kd.R_below (by (with_reducible repeat first | apply Kd.R_alloc | apply Kd.R_drewN | apply Kd.R_drew); exact HO_148003.out) hb); have n1_ := Aside0.mk (Kd.R_below (by (with_reducible repeat first | apply Kd.R_alloc | apply Kd.R_drewN | apply Kd.R_drew); exact HO173.out) hb); have n2_ := Aside0.mk (blk_below (g := gb147) (o := .cells #[.int .i64 t141, .int .i64 t142, .int .i64 t143, .slice Ao13 t144.length co13] 26 (0, 0)) (by (with_reducible repeat first | refine blk_drewN ?_ _ | refine blk_drew ?_ | refine blk_alloc ?_ _); exact BK147.out) hb); have n3_ := Aside0.mk (below_step (by repeat (first | (with_reducible first | exact HB.out | apply below_alloc | apply pw_below_drewN | apply below_drew1 | refine below_set ?_ GE147.out) | exact HB.out)) hb); have n4_ := Aside0.mk (hbox); have n5_ := Aside0.mk ((by rw [hg]; exact (below_size (by repeat (first | (with_reducible first | exact HB.out | apply below_alloc | apply pw_below_drewN | apply below_drew1 | refine below_set ?_ GE147.out) | exact HB.out))) : w.heap.size ≤ gb174)); have n6_ := Aside0.mk ((by rw [hg]; exact (below_size (by repeat (first | (with_reducible first | exact HB.out | apply below_alloc | apply pw_below_drewN | apply below_drew1 | refine below_set ?_ GE147.out) | exact HB.out))) : w.heap.size ≤ gb174)); have n7_ := Aside0.mk ((by rw [hg]; exact Nat.ne_of_lt (blk_lt (g := gb147) (o := .cells #[.int .i64 t141, .int .i64 t142, .int .i64 t143, .slice Ao13 t144.length co13] 26 (0, 0)) (by (with_reducible repeat first | refine blk_drewN ?_ _ | refine blk_drew ?_ | refine blk_alloc ?_ _); exact BK147.out)) : gb147 ≠ gb174)); have n8_ := Aside0.mk ((by rw [hg]; exact Nat.ne_of_gt (blk_lt (g := gb147) (o := .cells #[.int .i64 t141, .int .i64 t142, .int .i64 t143, .slice Ao13 t144.length co13] 26 (0, 0)) (by (with_reducible repeat first | refine blk_drewN ?_ _ | refine blk_drew ?_ | refine blk_alloc ?_ _); exact BK147.out)) : gb174 ≠ gb147)); clear HO_148003; clear HO173; clear BK147; clear HB; have HO_148003 := n0_; have HO173 := n1_; have BK147 := n2_; have HB := n3_; have BK174 := n4_; have GW174 := n5_; have GE174 := n6_; have NB147_174 := n7_; have NB174_147 := n8_; clear n0_ n1_ n2_ n3_ n4_ n5_ n6_ n7_ n8_; clear hb hbox hg; have hnb122 := NB174_147.out; have hnc122 := NB147_174.out; have hcz123_0 : w121.cell? ⟨gb174, 0, none⟩ = some (.int .i64 0) := (blk_cell BK174.out 0).trans rfl; have hcz123_1 : w121.cell? ⟨gb174, 1, none⟩ = some (.int .i64 0) := (blk_cell BK174.out 1).trans rfl; have hcz123_2 : w121.cell? ⟨gb174, 2, none⟩ = some (.int .i64 0) := (blk_cell BK174.out 2).trans rfl; have hcz123_3 : w121.cell? ⟨gb174, 3, none⟩ = some (.slice none 0 0) := (blk_cell BK174.out 3).trans rfl; have hfz123_0 := blk_frozen BK174.out 0; have hfz123_1 := blk_frozen BK174.out 1; have hfz123_2 := blk_frozen BK174.out 2; have hfz123_3 := blk_frozen BK174.out 3; obtain ⟨Ao124, co124, eo124⟩ := Kd.R_slice HO173.out; subst eo124; have hcz125_0 : w121.cell? ⟨gb147, 0, none⟩ = some (.int .i64 t141) := (blk_cell BK147.out 0).trans rfl; have hcz125_1 : w121.cell? ⟨gb147, 1, none⟩ = some (.int .i64 t142) := (blk_cell BK147.out 1).trans rfl; have hcz125_2 : w121.cell? ⟨gb147, 2, none⟩ = some (.int .i64 t143) := (blk_cell BK147.out 2).trans rfl; have hcz125_3 : w121.cell? ⟨gb147, 3, none⟩ = some (.slice Ao13 t144.length co13) := (blk_cell BK147.out 3).trans rfl; have hfz125_0 := blk_frozen BK147.out 0; have hfz125_1 := blk_frozen BK147.out 1; have hfz125_2 := blk_frozen BK147.out 2; have hfz125_3 := blk_frozen BK147.out 3) | ((with_reducible refine gate_builtin (b := .append) (xs := #[.tmp 132, .tmp 138]) rfl ?_); (try (refine gate_guard (by rfl) ?_; dsimp only)); at_builtin; refine Kd.R_append k34 (w0 := w) w.heap.size rfl (.tmp 132) (.tmp 138) 24 34 (.agg #[(.int .i64 0), (.int .i64 0), (.int .i64 0)]) 24 rfl Try.underlying24 info34 rfl (by decide) (by omega) (.slice Ao124 t171.length co124) t171 (⟨t143, t142, 0⟩ : S34) [.int .i64 t143, .int .i64 t142, .int .i64 0] (fun k_ => some k_ ≠ (.slice Ao13 t144.length co13 : Value).ownBlock) (fun _ => False) rfl (by first | (go_simp; done) | (go_simp; rfl)) ?aP (fun _ hk => hk.elim) ?aF ?aO ?aB ?aS ?aL ?_; (case aP => exact k34_mkM _ _ _ (⟨t143, t142, 0⟩ : S34)); (case aB => exact (by repeat (first | (with_reducible first | exact HB.out | apply below_alloc | apply pw_below_drewN | apply below_drew1 | refine below_set ?_ GE147.out | refine below_set ?_ GE174.out) | exact HB.out))); (case aF => exact (fun k_ hk => Kd.fresh' (Kd.R_lt (by (with_reducible repeat first | apply Kd.R_alloc | apply Kd.R_drewN | apply Kd.R_drew); exact (Kd.R_mono (Kd.R_far (p := ⟨gb174, 3, none⟩) (Kd.R_far (p := ⟨gb174, 2, none⟩) (Kd.R_far (p := ⟨gb174, 1, none⟩) (Kd.R_far (p := ⟨gb174, 0, none⟩) (Kd.R_types HO_148003.out BK174.out (by decide)) (fun _ hk => hk.2) (.int .i64 t168)) (fun _ hk => hk.2) (.int .i64 t169)) (fun _ hk => hk.2) (.int .i64 t170)) (fun _ hk => hk.2) (.slice Ao124 t171.length co124)) (fun _ h_ => h_.1)))) k_ hk)); (case aO => exact (by (with_reducible repeat first | apply Kd.R_alloc | apply Kd.R_drewN | apply Kd.R_drew); exact Kd.R_mono (Kd.R_far (p := ⟨gb174, 3, none⟩) (Kd.R_far (p := ⟨gb174, 2, none⟩) (Kd.R_far (p := ⟨gb174, 1, none⟩) (Kd.R_far (p := ⟨gb174, 0, none⟩) (Kd.R_types HO173.out BK174.out (by decide)) (fun _ hk => hk.2) (.int .i64 t168)) (fun _ hk => hk.2) (.int .i64 t169)) (fun _ hk => hk.2) (.int .i64 t170)) (fun _ hk => hk.2) (.slice Ao124 t171.length co124)) (fun _ hk => hk.1.2))); (case aS => exact (below_size (by repeat (first | (with_reducible first | exact HB.out | apply below_alloc | apply pw_below_drewN | apply below_drew1 | refine below_set ?_ GE147.out | refine below_set ?_ GE174.out) | exact HB.out)))); (case aL => have := LMc64.out; omega); intro v176 w126 ho hb hg hat; rw [← Ny175.out] at ho; have n0_ := Aside0.mk (Kd.R_after (ok := (fun _ => True)) (by (with_reducible repeat first | apply Kd.R_alloc | apply Kd.R_drewN | apply Kd.R_drew); exact Kd.R_mono (Kd.R_far (p := ⟨gb174, 3, none⟩) (Kd.R_far (p := ⟨gb174, 2, none⟩) (Kd.R_far (p := ⟨gb174, 1, none⟩) (Kd.R_far (p := ⟨gb174, 0, none⟩) (Kd.R_types HO_148003.out BK174.out (by decide)) (fun _ hk => hk.2) (.int .i64 t168)) (fun _ hk => hk.2) (.int .i64 t169)) (fun _ hk => hk.2) (.int .i64 t170)) (fun _ hk => hk.2) (.slice Ao124 t171.length co124)) (fun _ hk => ⟨trivial, hk.1.2⟩)) hg hat); have n1_ := Aside0.mk (blk_grown (g := gb147) (o := .cells #[.int .i64 t141, .int .i64 t142, .int .i64 t143, .slice Ao13 t144.length co13] 26 (0, 0)) (by (with_reducible repeat first | refine blk_drewN ?_ _ | refine blk_drew ?_ | refine blk_alloc ?_ _); refine blk_far ?_ NB147_174.out _; (with_reducible repeat first | refine blk_drewN ?_ _ | refine blk_drew ?_ | refine blk_alloc ?_ _); refine blk_far ?_ NB147_174.out _; (with_reducible repeat first | refine blk_drewN ?_ _ | refine blk_drew ?_ | refine blk_alloc ?_ _); refine blk_far ?_ NB147_174.out _; (with_reducible repeat first | refine blk_drewN ?_ _ | refine blk_drew ?_ | refine blk_alloc ?_ _); refine blk_far ?_ NB147_174.out _; (with_reducible repeat first | refine blk_drewN ?_ _ | refine blk_drew ?_ | refine blk_alloc ?_ _); exact BK147.out) hg (Kd.R_ne HO173.out BK147.out (by decide))); have n2_ := Aside0.mk (blk_grown (g := gb174) (o := .cells #[.int .i64 t168, .int .i64 t169, .int .i64 t170, .slice Ao124 t171.length co124] 26 (0, 0)) (by (with_reducible repeat first | refine blk_drewN ?_ _ | refine blk_drew ?_ | refine blk_alloc ?_ _); refine blk_put (cs := #[.int .i64 t168, .int .i64 t169, .int .i64 t170, .slice none 0 0]) ?_ 3 _ rfl; (with_reducible repeat first | refine blk_drewN ?_ _ | refine blk_drew ?_ | refine blk_alloc ?_ _); refine blk_put (cs := #[.int .i64 t168, .int .i64 t169, .int .i64 0, .slice none 0 0]) ?_ 2 _ rfl; (with_reducible repeat first | refine blk_drewN ?_ _ | refine blk_drew ?_ | refine blk_alloc ?_ _); refine blk_put (cs := #[.int .i64 t168, .int .i64 0, .int .i64 0, .slice none 0 0]) ?_ 1 _ rfl; (with_reducible repeat first | refine blk_drewN ?_ _ | refine blk_drew ?_ | refine blk_alloc ?_ _); refine blk_put (cs := #[.int .i64 0, .int .i64 0, .int .i64 0, .slice none 0 0]) ?_ 0 _ rfl; (with_reducible repeat first | refine blk_drewN ?_ _ | refine blk_drew ?_ | refine blk_alloc ?_ _); exact BK174.out) hg (Kd.R_ne HO173.out BK174.out (by decide))); have n3_ := Aside0.mk (hb); have n4_ := Aside0.mk (ho); clear HO_148003; clear BK147; clear BK174; clear HB; clear HO173; have HO_148003 := n0_; have BK147 := n1_; have BK174 := n2_; have HB := n3_; have HO177 := n4_; clear n0_ n1_ n2_ n3_ n4_; clear ho hb hg hat; obtain ⟨Ao127, co127, eo127⟩ := Kd.R_slice HO177.out; subst eo127; have hcz128_0 : w126.cell? ⟨gb174, 0, none⟩ = some (.int .i64 t168) := (blk_cell BK174.out 0).trans rfl; have hcz128_1 : w126.cell? ⟨gb174, 1, none⟩ = some (.int .i64 t169) := (blk_cell BK174.out 1).trans rfl; have hcz128_2 : w126.cell? ⟨gb174, 2, none⟩ = some (.int .i64 t170) := (blk_cell BK174.out 2).trans rfl; have hcz128_3 : w126.cell? ⟨gb174, 3, none⟩ = some (.slice Ao124 t171.length co124) := (blk_cell BK174.out 3).trans rfl; have hfz128_0 := blk_frozen BK174.out 0; have hfz128_1 := blk_frozen BK174.out 1; have hfz128_2 := blk_frozen BK174.out 2; have hfz128_3 := blk_frozen BK174.out 3; have hcz129_0 : w126.cell? ⟨gb147, 0, none⟩ = some (.int .i64 t141) := (blk_cell BK147.out 0).trans rfl; have hcz129_1 : w126.cell? ⟨gb147, 1, none⟩ = some (.int .i64 t142) := (blk_cell BK147.out 1).trans rfl; have hcz129_2 : w126.cell? ⟨gb147, 2, none⟩ = some (.int .i64 t143) := (blk_cell BK147.out 2).trans rfl; have hcz129_3 : w126.cell? ⟨gb147, 3, none⟩ = some (.slice Ao13 t144.length co13) := (blk_cell BK147.out 3).trans rfl; have hfz129_0 := blk_frozen BK147.out 0; have hfz129_1 := blk_frozen BK147.out 1; have hfz129_2 := blk_frozen BK147.out 2; have hfz129_3 := blk_frozen BK147.out 3) | ((with_reducible refine gate_callee (f := 11) rfl ?_); refine goesL_ (some 142) rfl rfl Try.func11 (by kernel_rfl) rfl #[.agg #[.int .i64 t141, .int .i64 t142, .int .i64 t143, .slice Ao13 t144.length co13]] rfl (by (try simp only [List.map_toArray, List.map_cons, List.map_nil]); first | done | rfl | (simp only [List.length_drop, List.length_take]; rfl)) ?_; (with_reducible refine (net_Copy.calls t141 t142 t143 _ _ t144 t178 t179 t180 t181 _ ?side1 ?side2 A65.out).mono ?_); (case side1 => refine (Kd.R_reads' (e := 34) (base := w.heap.size) (ok := fun k_ => (True ∧ some k_ ≠ (.slice Ao127 y175.length co127 : Value).ownBlock)) (n := t144.length) (c := co13) ?_).2.2; exact (by (with_reducible repeat first | apply Kd.R_alloc | apply Kd.R_drewN | apply Kd.R_drew); exact (Kd.R_mono (Kd.R_far (p := ⟨gb174, 3, none⟩) (Kd.R_types HO_148003.out BK174.out (by decide)) (fun _ hk => hk.2) (.slice Ao127 y175.length co127)) (fun _ h_ => h_.1)))); (case side2 => exact (Kd.R_reads' HO_148003.out).2.1); rintro e w130 ⟨v182, rfl, ho0, hb⟩; refine ⟨_, rfl, ?_⟩; have n0_ := Aside0.mk (Kd.R_elder' (by (with_reducible repeat first | apply Kd.R_alloc | apply Kd.R_drewN | apply Kd.R_drew); exact (Kd.R_mono (Kd.R_far (p := ⟨gb174, 3, none⟩) (Kd.R_types HO_148003.out BK174.out (by decide)) (fun _ hk => hk.2) (.slice Ao127 y175.length co127)) (fun _ h_ => h_.1))) (Kd.R_base ho0) hb); have n1_ := Aside0.mk (Kd.R_elder' (by (with_reducible repeat first | apply Kd.R_alloc | apply Kd.R_drewN | apply Kd.R_drew); exact (Kd.R_mono (Kd.R_far (p := ⟨gb174, 3, none⟩) (Kd.R_types HO177.out BK174.out (by decide)) (fun _ hk => hk.2) (.slice Ao127 y175.length co127)) (fun _ h_ => h_.1))) (Kd.R_base ho0) hb); have n2_ := Aside0.mk (Kd.R_lower (Kd.R_new' (Kd.R_new' ho0 (Kd.R_lt (by (with_reducible repeat first | apply Kd.R_alloc | apply Kd.R_drewN | apply Kd.R_drew); exact (Kd.R_mono (Kd.R_far (p := ⟨gb174, 3, none⟩) (Kd.R_types HO_148003.out BK174.out (by decide)) (fun _ hk => hk.2) (.slice Ao127 y175.length co127)) (fun _ h_ => h_.1))))) (Kd.R_lt (by (with_reducible repeat first | apply Kd.R_alloc | apply Kd.R_drewN | apply Kd.R_drew); exact (Kd.R_mono (Kd.R_far (p := ⟨gb174, 3, none⟩) (Kd.R_types HO177.out BK174.out (by decide)) (fun _ hk => hk.2) (.slice Ao127 y175.length co127)) (fun _ h_ => h_.1))))) (below_size (by repeat (first | (with_reducible first | exact HB.out | apply below_alloc | apply pw_below_drewN | apply below_drew1 | refine below_set ?_ GE147.out | refine below_set ?_ GE174.out) | exact HB.out)))); have n3_ := Aside0.mk (blk_below (g := gb147) (o := .cells #[.int .i64 t141, .int .i64 t142, .int .i64 t143, .slice Ao13 t144.length co13] 26 (0, 0)) (by (with_reducible repeat first | refine blk_drewN ?_ _ | refine blk_drew ?_ | refine blk_alloc ?_ _); refine blk_far ?_ NB147_174.out _; (with_reducible repeat first | refine blk_drewN ?_ _ | refine blk_drew ?_ | refine blk_alloc ?_ _); exact BK147.out) hb); have n4_ := Aside0.mk (blk_below (g := gb174) (o := .cells #[.int .i64 t168, .int .i64 t169, .int .i64 t170, .slice Ao127 y175.length co127] 26 (0, 0)) (by (with_reducible repeat first | refine blk_drewN ?_ _ | refine blk_drew ?_ | refine blk_alloc ?_ _); refine blk_put (cs := #[.int .i64 t168, .int .i64 t169, .int .i64 t170, .slice Ao124 t171.length co124]) ?_ 3 _ rfl; (with_reducible repeat first | refine blk_drewN ?_ _ | refine blk_drew ?_ | refine blk_alloc ?_ _); exact BK174.out) hb); have n5_ := Aside0.mk (below_step (by repeat (first | (with_reducible first | exact HB.out | apply below_alloc | apply pw_below_drewN | apply below_drew1 | refine below_set ?_ GE147.out | refine below_set ?_ GE174.out) | exact HB.out)) hb); clear HO_148003; clear HO177; clear BK147; clear BK174; clear HB; have HO_148003 := n0_; have HO177 := n1_; have HO183 := n2_; have BK147 := n3_; have BK174 := n4_; have HB := n5_; clear n0_ n1_ n2_ n3_ n4_ n5_; (try clear hb); (try clear hb2); (try clear hk); (try clear hi); (try clear ho0)) | ((with_reducible refine gate_dst (N := 17) rfl ?_); (try (refine gate_guard (by rfl) ?_; dsimp only)); refine box_event ?hg (N := 17) ?hd (cs := #[.int .i64 0, .int .i64 0, .int .i64 0, .slice none 0 0]) (t := 26) ?hr ?_; (case hd => rfl); (case hg => rfl); (case hr => first | (go_simp; done) | (go_simp; rfl)); intro gb184 hg w131 hbox hb; have n0_ := Aside0.mk (Kd.R_below (by (with_reducible repeat first | apply Kd.R_alloc | apply Kd.R_drewN | apply Kd.R_drew); exact HO_148003.out) hb); have n1_ := Aside0.mk (Kd.R_below (by (with_reducible repeat first | apply Kd.R_alloc | apply Kd.R_drewN | apply Kd.R_drew); exact HO177.out) hb); have n2_ := Aside0.mk (Kd.R_below (by (with_reducible repeat first | apply Kd.R_alloc | apply Kd.R_drewN | apply Kd.R_drew); exact HO183.out) hb); have n3_ := Aside0.mk (blk_below (g := gb147) (o := .cells #[.int .i64 t141, .int .i64 t142, .int .i64 t143, .slice Ao13 t144.length co13] 26 (0, 0)) (by (with_reducible repeat first | refine blk_drewN ?_ _ | refine blk_drew ?_ | refine blk_alloc ?_ _); exact BK147.out) hb); have n4_ := Aside0.mk (blk_below (g := gb174) (o := .cells #[.int .i64 t168, .int .i64 t169, .int .i64 t170, .slice Ao127 y175.length co127] 26 (0, 0)) (by (with_reducible repeat first | refine blk_drewN ?_ _ | refine blk_drew ?_ | refine blk_alloc ?_ _); exact BK174.out) hb); have n5_ := Aside0.mk (below_step (by repeat (first | (with_reducible first | exact HB.out | apply below_alloc | apply pw_below_drewN | apply below_drew1 | refine below_set ?_ GE147.out | refine below_set ?_ GE174.out) | exact HB.out)) hb); have n6_ := Aside0.mk (hbox); have n7_ := Aside0.mk ((by rw [hg]; exact (below_size (by repeat (first | (with_reducible first | exact HB.out | apply below_alloc | apply pw_below_drewN | apply below_drew1 | refine below_set ?_ GE147.out | refine below_set ?_ GE174.out) | exact HB.out))) : w.heap.size ≤ gb184)); have n8_ := Aside0.mk ((by rw [hg]; exact (below_size (by repeat (first | (with_reducible first | exact HB.out | apply below_alloc | apply pw_below_drewN | apply below_drew1 | refine below_set ?_ GE147.out | refine below_set ?_ GE174.out) | exact HB.out))) : w.heap.size ≤ gb184)); have n9_ := Aside0.mk ((by rw [hg]; exact Nat.ne_of_lt (blk_lt (g := gb147) (o := .cells #[.int .i64 t141, .int .i64 t142, .int .i64 t143, .slice Ao13 t144.length co13] 26 (0, 0)) (by (with_reducible repeat first | refine blk_drewN ?_ _ | refine blk_drew ?_ | refine blk_alloc ?_ _); exact BK147.out)) : gb147 ≠ gb184)); have n10_ := Aside0.mk ((by rw [hg]; exact Nat.ne_of_gt (blk_lt (g := gb147) (o := .cells #[.int .i64 t141, .int .i64 t142, .int .i64 t143, .slice Ao13 t144.length co13] 26 (0, 0)) (by (with_reducible repeat first | refine blk_drewN ?_ _ | refine blk_drew ?_ | refine blk_alloc ?_ _); exact BK147.out)) : gb184 ≠ gb147)); have n11_ := Aside0.mk ((by rw [hg]; exact Nat.ne_of_lt (blk_lt (g := gb174) (o := .cells #[.int .i64 t168, .int .i64 t169, .int .i64 t170, .slice Ao127 y175.length co127] 26 (0, 0)) (by (with_reducible repeat first | refine blk_drewN ?_ _ | refine blk_drew ?_ | refine blk_alloc ?_ _); exact BK174.out)) : gb174 ≠ gb184)); have n12_ := Aside0.mk ((by rw [hg]; exact Nat.ne_of_gt (blk_lt (g := gb174) (o := .cells #[.int .i64 t168, .int .i64 t169, .int .i64 t170, .slice Ao127 y175.length co127] 26 (0, 0)) (by (with_reducible repeat first | refine blk_drewN ?_ _ | refine blk_drew ?_ | refine blk_alloc ?_ _); exact BK174.out)) : gb184 ≠ gb174)); clear HO_148003; clear HO177; clear HO183; clear BK147; clear BK174; clear HB; have HO_148003 := n0_; have HO177 := n1_; have HO183 := n2_; have BK147 := n3_; have BK174 := n4_; have HB := n5_; have BK184 := n6_; have GW184 := n7_; have GE184 := n8_; have NB147_184 := n9_; have NB184_147 := n10_; have NB174_184 := n11_; have NB184_174 := n12_; clear n0_ n1_ n2_ n3_ n4_ n5_ n6_ n7_ n8_ n9_ n10_ n11_ n12_; clear hb hbox hg; have hnb132 := NB184_147.out; have hnc132 := NB147_184.out; have hnb133 := NB184_174.out; have hnc133 := NB174_184.out; have hcz134_0 : w131.cell? ⟨gb184, 0, none⟩ = some (.int .i64 0) := (blk_cell BK184.out 0).trans rfl; have hcz134_1 : w131.cell? ⟨gb184, 1, none⟩ = some (.int .i64 0) := (blk_cell BK184.out 1).trans rfl; have hcz134_2 : w131.cell? ⟨gb184, 2, none⟩ = some (.int .i64 0) := (blk_cell BK184.out 2).trans rfl; have hcz134_3 : w131.cell? ⟨gb184, 3, none⟩ = some (.slice none 0 0) := (blk_cell BK184.out 3).trans rfl; have hfz134_0 := blk_frozen BK184.out 0; have hfz134_1 := blk_frozen BK184.out 1; have hfz134_2 := blk_frozen BK184.out 2; have hfz134_3 := blk_frozen BK184.out 3; obtain ⟨Ao135, co135, eo135⟩ := Kd.R_slice HO183.out; subst eo135; have hcz136_0 : w131.cell? ⟨gb174, 0, none⟩ = some (.int .i64 t168) := (blk_cell BK174.out 0).trans rfl; have hcz136_1 : w131.cell? ⟨gb174, 1, none⟩ = some (.int .i64 t169) := (blk_cell BK174.out 1).trans rfl; have hcz136_2 : w131.cell? ⟨gb174, 2, none⟩ = some (.int .i64 t170) := (blk_cell BK174.out 2).trans rfl; have hcz136_3 : w131.cell? ⟨gb174, 3, none⟩ = some (.slice Ao127 y175.length co127) := (blk_cell BK174.out 3).trans rfl; have hfz136_0 := blk_frozen BK174.out 0; have hfz136_1 := blk_frozen BK174.out 1; have hfz136_2 := blk_frozen BK174.out 2; have hfz136_3 := blk_frozen BK174.out 3) | ((with_reducible refine gate_callee (f := 7) rfl ?_); refine goesL_ (some 165) rfl rfl Try.func7 (by kernel_rfl) rfl #[.agg #[.int .i64 t168, .int .i64 t169, .int .i64 t170, .slice Ao127 y175.length co127]] rfl (by (try simp only [List.map_toArray, List.map_cons, List.map_nil]); first | done | rfl | (simp only [List.length_drop, List.length_take]; rfl)) ?_; (with_reducible refine (net_Check.calls t168 t169 t170 _ _ y175 t206 _ ?side1 ?side2 A114.out).mono ?_); (case side1 => refine (Kd.R_reads' (e := 34) (base := w.heap.size) (ok := fun k_ => (some k_ ≠ (.slice Ao13 t144.length co13 : Value).ownBlock ∧ some k_ ≠ (.slice Ao135 t181.length co135 : Value).ownBlock)) (n := y175.length) (c := co127) ?_).2.2; exact (by (with_reducible repeat first | apply Kd.R_alloc | apply Kd.R_drewN | apply Kd.R_drew); exact (Kd.R_mono (Kd.R_far (p := ⟨gb184, 3, none⟩) (Kd.R_far (p := ⟨gb184, 2, none⟩) (Kd.R_far (p := ⟨gb184, 1, none⟩) (Kd.R_far (p := ⟨gb184, 0, none⟩) (Kd.R_types HO177.out BK184.out (by decide)) (fun _ hk => hk.2) (.int .i64 t178)) (fun _ hk => hk.2) (.int .i64 t179)) (fun _ hk => hk.2) (.int .i64 t180)) (fun _ hk => hk.2) (.slice Ao135 t181.length co135)) (fun _ h_ => h_.1)))); (case side2 => exact (Kd.R_reads' HO177.out).2.1); rintro e w137 ⟨rfl, hb⟩; refine ⟨_, rfl, ?_⟩; have n0_ := Aside0.mk (Kd.R_below (by (with_reducible repeat first | apply Kd.R_alloc | apply Kd.R_drewN | apply Kd.R_drew); exact (Kd.R_mono (Kd.R_far (p := ⟨gb184, 3, none⟩) (Kd.R_far (p := ⟨gb184, 2, none⟩) (Kd.R_far (p := ⟨gb184, 1, none⟩) (Kd.R_far (p := ⟨gb184, 0, none⟩) (Kd.R_types HO_148003.out BK184.out (by decide)) (fun _ hk => hk.2) (.int .i64 t178)) (fun _ hk => hk.2) (.int .i64 t179)) (fun _ hk => hk.2) (.int .i64 t180)) (fun _ hk => hk.2) (.slice Ao135 t181.length co135)) (fun _ h_ => h_.1))) hb); have n1_ := Aside0.mk (Kd.R_below (by (with_reducible repeat first | apply Kd.R_alloc | apply Kd.R_drewN | apply Kd.R_drew); exact (Kd.R_mono (Kd.R_far (p := ⟨gb184, 3, none⟩) (Kd.R_far (p := ⟨gb184, 2, none⟩) (Kd.R_far (p := ⟨gb184, 1, none⟩) (Kd.R_far (p := ⟨gb184, 0, none⟩) (Kd.R_types HO177.out BK184.out (by decide)) (fun _ hk => hk.2) (.int .i64 t178)) (fun _ hk => hk.2) (.int .i64 t179)) (fun _ hk => hk.2) (.int .i64 t180)) (fun _ hk => hk.2) (.slice Ao135 t181.length co135)) (fun _ h_ => h_.1))) hb); have n2_ := Aside0.mk (Kd.R_below (by (with_reducible repeat first | apply Kd.R_alloc | apply Kd.R_drewN | apply Kd.R_drew); exact (Kd.R_mono (Kd.R_far (p := ⟨gb184, 3, none⟩) (Kd.R_far (p := ⟨gb184, 2, none⟩) (Kd.R_far (p := ⟨gb184, 1, none⟩) (Kd.R_far (p := ⟨gb184, 0, none⟩) (Kd.R_types HO183.out BK184.out (by decide)) (fun _ hk => hk.2) (.int .i64 t178)) (fun _ hk => hk.2) (.int .i64 t179)) (fun _ hk => hk.2) (.int .i64 t180)) (fun _ hk => hk.2) (.slice Ao135 t181.length co135)) (fun _ h_ => h_.1))) hb); have n3_ := Aside0.mk (blk_below (g := gb147) (o := .cells #[.int .i64 t141, .int .i64 t142, .int .i64 t143, .slice Ao13 t144.length co13] 26 (0, 0)) (by (with_reducible repeat first | refine blk_drewN ?_ _ | refine blk_drew ?_ | refine blk_alloc ?_ _); refine blk_far ?_ NB147_184.out _; (with_reducible repeat first | refine blk_drewN ?_ _ | refine blk_drew ?_ | refine blk_alloc ?_ _); refine blk_far ?_ NB147_184.out _; (with_reducible repeat first | refine blk_drewN ?_ _ | refine blk_drew ?_ | refine blk_alloc ?_ _); refine blk_far ?_ NB147_184.out _; (with_reducible repeat first | refine blk_drewN ?_ _ | refine blk_drew ?_ | refine blk_alloc ?_ _); refine blk_far ?_ NB147_184.out _; (with_reducible repeat first | refine blk_drewN ?_ _ | refine blk_drew ?_ | refine blk_alloc ?_ _); exact BK147.out) hb); have n4_ := Aside0.mk (blk_below (g := gb174) (o := .cells #[.int .i64 t168, .int .i64 t169, .int .i64 t170, .slice Ao127 y175.length co127] 26 (0, 0)) (by (with_reducible repeat first | refine blk_drewN ?_ _ | refine blk_drew ?_ | refine blk_alloc ?_ _); refine blk_far ?_ NB174_184.out _; (with_reducible repeat first | refine blk_drewN ?_ _ | refine blk_drew ?_ | refine blk_alloc ?_ _); refine blk_far ?_ NB174_184.out _; (with_reducible repeat first | refine blk_drewN ?_ _ | refine blk_drew ?_ | refine blk_alloc ?_ _); refine blk_far ?_ NB174_184.out _; (with_reducible repeat first | refine blk_drewN ?_ _ | refine blk_drew ?_ | refine blk_alloc ?_ _); refine blk_far ?_ NB174_184.out _; (with_reducible repeat first | refine blk_drewN ?_ _ | refine blk_drew ?_ | refine blk_alloc ?_ _); exact BK174.out) hb); have n5_ := Aside0.mk (blk_below (g := gb184) (o := .cells #[.int .i64 t178, .int .i64 t179, .int .i64 t180, .slice Ao135 t181.length co135] 26 (0, 0)) (by (with_reducible repeat first | refine blk_drewN ?_ _ | refine blk_drew ?_ | refine blk_alloc ?_ _); refine blk_put (cs := #[.int .i64 t178, .int .i64 t179, .int .i64 t180, .slice none 0 0]) ?_ 3 _ rfl; (with_reducible repeat first | refine blk_drewN ?_ _ | refine blk_drew ?_ | refine blk_alloc ?_ _); refine blk_put (cs := #[.int .i64 t178, .int .i64 t179, .int .i64 0, .slice none 0 0]) ?_ 2 _ rfl; (with_reducible repeat first | refine blk_drewN ?_ _ | refine blk_drew ?_ | refine blk_alloc ?_ _); refine blk_put (cs := #[.int .i64 t178, .int .i64 0, .int .i64 0, .slice none 0 0]) ?_ 1 _ rfl; (with_reducible repeat first | refine blk_drewN ?_ _ | refine blk_drew ?_ | refine blk_alloc ?_ _); refine blk_put (cs := #[.int .i64 0, .int .i64 0, .int .i64 0, .slice none 0 0]) ?_ 0 _ rfl; (with_reducible repeat first | refine blk_drewN ?_ _ | refine blk_drew ?_ | refine blk_alloc ?_ _); exact BK184.out) hb); have n6_ := Aside0.mk (below_step (by repeat (first | (with_reducible first | exact HB.out | apply below_alloc | apply pw_below_drewN | apply below_drew1 | refine below_set ?_ GE147.out | refine below_set ?_ GE174.out | refine below_set ?_ GE184.out) | exact HB.out)) hb); clear HO_148003; clear HO177; clear HO183; clear BK147; clear BK174; clear BK184; clear HB; have HO_148003 := n0_; have HO177 := n1_; have HO183 := n2_; have BK147 := n3_; have BK174 := n4_; have BK184 := n5_; have HB := n6_; clear n0_ n1_ n2_ n3_ n4_ n5_ n6_; (try clear hb); (try clear hb2); (try clear hk); (try clear hi); have hcz138_0 : w137.cell? ⟨gb184, 0, none⟩ = some (.int .i64 t178) := (blk_cell BK184.out 0).trans rfl; have hcz138_1 : w137.cell? ⟨gb184, 1, none⟩ = some (.int .i64 t179) := (blk_cell BK184.out 1).trans rfl; have hcz138_2 : w137.cell? ⟨gb184, 2, none⟩ = some (.int .i64 t180) := (blk_cell BK184.out 2).trans rfl; have hcz138_3 : w137.cell? ⟨gb184, 3, none⟩ = some (.slice Ao135 t181.length co135) := (blk_cell BK184.out 3).trans rfl; have hfz138_0 := blk_frozen BK184.out 0; have hfz138_1 := blk_frozen BK184.out 1; have hfz138_2 := blk_frozen BK184.out 2; have hfz138_3 := blk_frozen BK184.out 3) | (go_at_call 7; (with_reducible refine (net_Check.calls t178 t179 t180 _ _ t181 t207 _ ?side1 ?side2 A116.out).mono ?_); (case side1 => repeat (first | exact (Kd.R_reads' HO183.out).2.2 | (with_reducible refine Kd.C_alloc ?_ _) | (with_reducible refine Kd.C_drewN ?_ _) | (with_reducible refine Kd.C_drew ?_))); (case side2 => exact (Kd.R_reads' HO183.out).2.1); rintro e w139 ⟨rfl, hb⟩; have n0_ := Aside0.mk (Kd.R_below (by (with_reducible repeat first | apply Kd.R_alloc | apply Kd.R_drewN | apply Kd.R_drew); exact HO_148003.out) hb); have n1_ := Aside0.mk (Kd.R_below (by (with_reducible repeat first | apply Kd.R_alloc | apply Kd.R_drewN | apply Kd.R_drew); exact HO177.out) hb); have n2_ := Aside0.mk (Kd.R_below (by (with_reducible repeat first | apply Kd.R_alloc | apply Kd.R_drewN | apply Kd.R_drew); exact HO183.out) hb); have n3_ := Aside0.mk (blk_below (g := gb147) (o := .cells #[.int .i64 t141, .int .i64 t142, .int .i64 t143, .slice Ao13 t144.length co13] 26 (0, 0)) (by (with_reducible repeat first | refine blk_drewN ?_ _ | refine blk_drew ?_ | refine blk_alloc ?_ _); exact BK147.out) hb); have n4_ := Aside0.mk (blk_below (g := gb174) (o := .cells #[.int .i64 t168, .int .i64 t169, .int .i64 t170, .slice Ao127 y175.length co127] 26 (0, 0)) (by (with_reducible repeat first | refine blk_drewN ?_ _ | refine blk_drew ?_ | refine blk_alloc ?_ _); exact BK174.out) hb); have n5_ := Aside0.mk (blk_below (g := gb184) (o := .cells #[.int .i64 t178, .int .i64 t179, .int .i64 t180, .slice Ao135 t181.length co135] 26 (0, 0)) (by (with_reducible repeat first | refine blk_drewN ?_ _ | refine blk_drew ?_ | refine blk_alloc ?_ _); exact BK184.out) hb); have n6_ := Aside0.mk (below_step (by repeat (first | (with_reducible first | exact HB.out | apply below_alloc | apply pw_below_drewN | apply below_drew1 | refine below_set ?_ GE147.out | refine below_set ?_ GE174.out | refine below_set ?_ GE184.out) | exact HB.out)) hb); clear HO_148003; clear HO177; clear HO183; clear BK147; clear BK174; clear BK184; clear HB; have HO_148003 := n0_; have HO177 := n1_; have HO183 := n2_; have BK147 := n3_; have BK174 := n4_; have BK184 := n5_; have HB := n6_; clear n0_ n1_ n2_ n3_ n4_ n5_ n6_; (try clear hb); (try clear hb2); (try clear hk); (try clear hi); have hcz140_0 : w139.cell? ⟨gb174, 0, none⟩ = some (.int .i64 t168) := (blk_cell BK174.out 0).trans rfl; have hcz140_1 : w139.cell? ⟨gb174, 1, none⟩ = some (.int .i64 t169) := (blk_cell BK174.out 1).trans rfl; have hcz140_2 : w139.cell? ⟨gb174, 2, none⟩ = some (.int .i64 t170) := (blk_cell BK174.out 2).trans rfl; have hcz140_3 : w139.cell? ⟨gb174, 3, none⟩ = some (.slice Ao127 y175.length co127) := (blk_cell BK174.out 3).trans rfl; have hfz140_0 := blk_frozen BK174.out 0; have hfz140_1 := blk_frozen BK174.out 1; have hfz140_2 := blk_frozen BK174.out 2; have hfz140_3 := blk_frozen BK174.out 3; have hcz141_0 : w139.cell? ⟨gb147, 0, none⟩ = some (.int .i64 t141) := (blk_cell BK147.out 0).trans rfl; have hcz141_1 : w139.cell? ⟨gb147, 1, none⟩ = some (.int .i64 t142) := (blk_cell BK147.out 1).trans rfl; have hcz141_2 : w139.cell? ⟨gb147, 2, none⟩ = some (.int .i64 t143) := (blk_cell BK147.out 2).trans rfl; have hcz141_3 : w139.cell? ⟨gb147, 3, none⟩ = some (.slice Ao13 t144.length co13) := (blk_cell BK147.out 3).trans rfl; have hfz141_0 := blk_frozen BK147.out 0; have hfz141_1 := blk_frozen BK147.out 1; have hfz141_2 := blk_frozen BK147.out 2; have hfz141_3 := blk_frozen BK147.out 3) | (go_at_call 8; (with_reducible refine (net_Same.calls t168 t169 t170 _ _ y175 t141 t142 t143 _ _ t144 t208 _ ?side1 ?side2 ?side3 ?side4 A118.out).mono ?_); (case side1 => repeat (first | exact (Kd.R_reads' HO177.out).2.2 | (with_reducible refine Kd.C_alloc ?_ _) | (with_reducible refine Kd.C_drewN ?_ _) | (with_reducible refine Kd.C_drew ?_))); (case side2 => exact (Kd.R_reads' HO177.out).2.1); (case side3 => repeat (first | exact (Kd.R_reads' HO_148003.out).2.2 | (with_reducible refine Kd.C_alloc ?_ _) | (with_reducible refine Kd.C_drewN ?_ _) | (with_reducible refine Kd.C_drew ?_))); (case side4 => exact (Kd.R_reads' HO_148003.out).2.1); rintro e w142 ⟨rfl, hb⟩; have n0_ := Aside0.mk (Kd.R_below (by (with_reducible repeat first | apply Kd.R_alloc | apply Kd.R_drewN | apply Kd.R_drew); exact HO_148003.out) hb); have n1_ := Aside0.mk (Kd.R_below (by (with_reducible repeat first | apply Kd.R_alloc | apply Kd.R_drewN | apply Kd.R_drew); exact HO177.out) hb); have n2_ := Aside0.mk (Kd.R_below (by (with_reducible repeat first | apply Kd.R_alloc | apply Kd.R_drewN | apply Kd.R_drew); exact HO183.out) hb); have n3_ := Aside0.mk (blk_below (g := gb147) (o := .cells #[.int .i64 t141, .int .i64 t142, .int .i64 t143, .slice Ao13 t144.length co13] 26 (0, 0)) (by (with_reducible repeat first | refine blk_drewN ?_ _ | refine blk_drew ?_ | refine blk_alloc ?_ _); exact BK147.out) hb); have n4_ := Aside0.mk (blk_below (g := gb174) (o := .cells #[.int .i64 t168, .int .i64 t169, .int .i64 t170, .slice Ao127 y175.length co127] 26 (0, 0)) (by (with_reducible repeat first | refine blk_drewN ?_ _ | refine blk_drew ?_ | refine blk_alloc ?_ _); exact BK174.out) hb); have n5_ := Aside0.mk (blk_below (g := gb184) (o := .cells #[.int .i64 t178, .int .i64 t179, .int .i64 t180, .slice Ao135 t181.length co135] 26 (0, 0)) (by (with_reducible repeat first | refine blk_drewN ?_ _ | refine blk_drew ?_ | refine blk_alloc ?_ _); exact BK184.out) hb); have n6_ := Aside0.mk (below_step (by repeat (first | (with_reducible first | exact HB.out | apply below_alloc | apply pw_below_drewN | apply below_drew1 | refine below_set ?_ GE147.out | refine below_set ?_ GE174.out | refine below_set ?_ GE184.out) | exact HB.out)) hb); clear HO_148003; clear HO177; clear HO183; clear BK147; clear BK174; clear BK184; clear HB; have HO_148003 := n0_; have HO177 := n1_; have HO183 := n2_; have BK147 := n3_; have BK174 := n4_; have BK184 := n5_; have HB := n6_; clear n0_ n1_ n2_ n3_ n4_ n5_ n6_; (try clear hb); (try clear hb2); (try clear hk); (try clear hi)))
                go_ret
                exact ⟨by first | rfl | (simp [errW_none, errW_some] <;> rfl) | (simp [*, errW_none, errW_some] <;> rfl), by repeat (first | (with_reducible first | exact HB.out | apply below_alloc | apply pw_below_drewN | apply below_drew1 | refine below_set ?_ GE147.out | refine below_set ?_ GE174.out | refine below_set ?_ GE184.out) | exact HB.out)⟩
              ·(rw [if_neg c117] at H);(have c117b0 : (t207 == 0) = false := beq_eq_false_iff_ne.mpr c117);(have c117b1 : (t207 != 0) = true := bne_iff_ne.mpr c117);(exact absurd ((Option.some.inj H).trans hrT_.out) (by simp))
             ·(rw [if_neg c115] at H);(have c115b0 : (t206 == 0) = false := beq_eq_false_iff_ne.mpr c115);(have c115b1 : (t206 != 0) = true := bne_iff_ne.mpr c115);(exact absurd ((Option.some.inj H).trans hrT_.out) (by simp))
           ·(rw [if_neg c64] at H);(exact absurd H (by simp))
 ·replace c6 := Bool.eq_false_iff.mpr c6
  subst c6
  have H1 : (some false) = some r := by rw [if_neg (show ¬ (false = true) by decide)] at H; exact H
  clear H
  have H := H1
  clear H1
  exact absurd ((Option.some.inj H).trans hrT_.out) (by simp)
theorem racewaylaw3_NetParts.walk (P : racewaylaw3_NetParts.Pure) (a0 : Int) (a1 : Int) (A2 : Option Addr) (c2 : Nat) (l2 : List (S50)) (a3 : Int) (w : World) (w0 : (Lit.int .i64 a0).wf = true) (w1 : (Lit.int .i64 a1).wf = true) (hr2 : Kd.C k50 w A2 l2.length l2) (hc2 : l2.length ≤ c2) (hm2 : l2.length ≤ maxLen) (hw2 : (∀ x ∈ l2, (Lit.int .i64 x.f0).wf = true ∧ (Lit.int .i64 x.f1).wf = true ∧ (Lit.int .i64 x.f2).wf = true)) (w3 : (Lit.int .i64 a3).wf = true) :
  Calls Try.prog 3 #[.int .i64 a0, .int .i64 a1, .slice A2 l2.length c2, .int .i64 a3] w fun e w' => e = .returned (.bool true) ∧ Below w.heap.size w w' := by
 obtain ⟨k, h⟩ := P a0 a1 l2 a3 w0 w1 hm2 hw2 w3
 refine (racewaylaw3_NetParts.calls k a0 a1 _ _ l2 a3 true w hr2 hc2 h ⟨rfl⟩).mono ?_
 rintro e w' ⟨rfl, hd⟩
 exact ⟨rfl, hd⟩
end Go.Proofs.Ytlkpapkcgafgeaa.PNetParts
