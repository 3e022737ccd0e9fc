/- For the law LevelTurned, for every input: printed by a program (wip/myprint), contracts by hand where it says MANUAL. -/
-- slim
import Derived.Test.YtbppeffcikphcaaPLevelTurnedx0
import Derived.Test.YtbppeffcikphcaaPLevelTurnedx16
import Derived.Test.YtbppeffcikphcaaPLevelTurnedx17
namespace Go.Proofs.Ytbppeffcikphcaa.PLevelTurned
open Go.RowKit Go.Proofs.YtbppeffcikphcaaW.PrintWords Go.Proofs.YtbppeffcikphcaaW.PrintLast Go.Proofs.YtbppeffcikphcaaW.PrintMore
attribute [local go_sem] max2_int min2_int max_two min_two max_three min_three max_four min_four
set_option linter.unusedVariables false
set_option linter.unusedSimpArgs false
/-! ### net_Turn: function 43 -/
-- MANUAL: this contract was written by hand.
def turnArc (a : S49) : S49 := ⟨a.f1, a.f0, a.f2⟩
def net_Turn.f (a0_0 a0_1 a0_2 : Int) (l0_3 : List S49) : Option (Int × Int × Int × List S49) := if l0_3.length < 5864062014805 then some (a0_0, a0_2, a0_1, l0_3.map turnArc) else none
/-- Four cells of a variable in memory written, one behind the other. -/
theorem put4 {w0 w : World} {g t e base : Nat} {x0 x1 x2 x3 y0 y1 y2 y3 v : Value} {α : Type} {d : Kd α} {ok : Nat → Prop} {xs : List α} (hb : w.heap[g]? = some (.cells #[x0, x1, x2, x3] t (0, 0))) (hr : d.R e w base ok v xs) (ht : ∀ q, q ∈ e :: d.E → q ≠ t) (hB : Below w0.heap.size w0 w) (hg : w0.heap.size ≤ g) :
  ((((w.setCell ⟨g, 0, none⟩ y0).setCell ⟨g, 1, none⟩ y1).setCell ⟨g, 2, none⟩ y2).setCell ⟨g, 3, none⟩ y3).heap[g]? = some (.cells #[y0, y1, y2, y3] t (0, 0)) ∧ d.R e ((((w.setCell ⟨g, 0, none⟩ y0).setCell ⟨g, 1, none⟩ y1).setCell ⟨g, 2, none⟩ y2).setCell ⟨g, 3, none⟩ y3) base ok v xs ∧ Below w0.heap.size w0 ((((w.setCell ⟨g, 0, none⟩ y0).setCell ⟨g, 1, none⟩ y1).setCell ⟨g, 2, none⟩ y2).setCell ⟨g, 3, none⟩ y3) := by
 have h0 := blk_put hb 0 y0 (cs' := #[y0, x1, x2, x3]) rfl
 have h1 := blk_put h0 1 y1 (cs' := #[y0, y1, x2, x3]) rfl
 have h2 := blk_put h1 2 y2 (cs' := #[y0, y1, y2, x3]) rfl
 have h3 := blk_put h2 3 y3 (cs' := #[y0, y1, y2, y3]) rfl
 exact ⟨h3, Kd.R_set (Kd.R_set (Kd.R_set (Kd.R_set hr hb ht 0 y0) h0 ht 1 y1) h1 ht 2 y2) h2 ht 3 y3, below_set (below_set (below_set (below_set hB hg) hg) hg) hg⟩
theorem succ_val {j : Nat} (h : j < 4611686018427387904) : Value.int .i64 (wrap64 ((j : Int) + 1)) = Value.int .i64 ((j + 1 : Nat) : Int) := by
 have e : wrap64 ((j : Int) + 1) = ((j + 1 : Nat) : Int) := by unfold wrap64; omega
 rw [e]
theorem turn_step {l : List S49} {j : Nat} (h : j < l.length) : ((l.take j).map turnArc ++ l.drop j).set j (turnArc (rd_T49 l (j : Int))) = (l.take (j + 1)).map turnArc ++ l.drop (j + 1) := by
 have e0 : rd_T49 l (j : Int) = l[j] := by simp [rd_T49, h]
 have hl : ((l.take j).map turnArc).length = j := by rw [List.length_map, List.length_take]; omega
 rw [e0, List.set_append_right _ _ (by omega), hl, Nat.sub_self, List.drop_eq_getElem_cons h, List.set_cons_zero, List.take_succ_eq_append_getElem h, List.map_append]
 simp
theorem turn_at {l : List S49} {j : Nat} (h : j < l.length) : ((l.take j).map turnArc ++ l.drop j).getD j z49 = rd_T49 l (j : Int) := by
 have e0 : rd_T49 l (j : Int) = l[j] := by simp [rd_T49, h]
 have hl : ((l.take j).map turnArc).length = j := by rw [List.length_map, List.length_take]; omega
 rw [e0, List.getD_eq_getElem?_getD, List.getElem?_append_right (by omega), hl, Nat.sub_self, List.drop_eq_getElem_cons h]
 rfl
set_option maxHeartbeats 8000000 in
set_option maxRecDepth 100000 in
theorem net_Turn.calls (a0_0 : Int) (a0_1 : Int) (a0_2 : Int) (A0_3 : Option Addr) (c0_3 : Nat) (l0_3 : List (S49)) (r1 : Int) (r2 : Int) (r3 : Int) (r4 : List (S49)) (w : World) (hr0_3 : Kd.C k49 w A0_3 l0_3.length l0_3) (hc0_3 : l0_3.length ≤ c0_3) (h : net_Turn.f a0_0 a0_1 a0_2 l0_3 = some (r1, r2, r3, r4)) :
  Calls Try.prog 43 #[.agg #[.int .i64 a0_0, .int .i64 a0_1, .int .i64 a0_2, .slice A0_3 l0_3.length c0_3]] w fun e w' => ∃ v3_ : Value, e = .returned (.agg #[.int .i64 r1, .int .i64 r2, .int .i64 r3, v3_]) ∧ Kd.R k49 49 w' w.heap.size (fun _ => True) v3_ r4 ∧ Below w.heap.size w w' := by
 have hu26 := Try.underlying27
 have hu28 := Try.underlying49
 unfold net_Turn.f at h
 by_cases hl : l0_3.length < 5864062014805
 ·rw [if_pos hl] at h
  simp only [Option.some.injEq, Prod.mk.injEq] at h
  obtain ⟨rfl, rfl, rfl, rfl⟩ := h
  have HCP : Aside0 (net_Copy.f a0_0 a0_1 a0_2 l0_3 = some (a0_0, a0_1, a0_2, l0_3)) := ⟨by simp [net_Copy.f, cloneArc.f, hl]⟩
  have HL := Aside0.mk hl
  have HR := Aside0.mk hr0_3
  have HC := Aside0.mk hc0_3
  clear hr0_3 hc0_3 hl
  have HB := Aside0.mk (Below.refl w.heap.size w)
  go_enter Try.func43, Try.ntmps43
  go_wp2_with (first
   | ((with_reducible refine gate_dst (N := 1) rfl ?_); refine box_event ?hg (N := 1) ?hd (cs := #[.int .i64 a0_0, .int .i64 a0_1, .int .i64 a0_2, .slice A0_3 l0_3.length c0_3]) (t := 27) ?hr ?_; (case hd => rfl); (case hg => rfl); (case hr => first | (go_simp; done) | (go_simp; rfl)); intro gn hg w1 hbox hb; have HB1 := Aside0.mk (below_step HB.out hb); have BN := Aside0.mk hbox; have GN : Aside0 (w.heap.size ≤ gn) := ⟨by rw [hg]; exact Nat.le_refl _⟩; clear HB hb hbox hg)
   | ((with_reducible refine gate_dst (N := 2) rfl ?_); refine box_event ?hg (N := 2) ?hd (cs := #[.int .i64 0, .int .i64 0, .int .i64 0, .slice none 0 0]) (t := 27) ?hr ?_; (case hd => rfl); (case hg => rfl); (case hr => first | (go_simp; done) | (go_simp; rfl)); intro gr hg w2 hbox hb; have HB2 := Aside0.mk (below_step HB1.out hb); have BR := Aside0.mk hbox; have GR : Aside0 (w.heap.size ≤ gr) := ⟨by rw [hg]; exact below_size HB1.out⟩; have NB : Aside0 (gn ≠ gr) := ⟨by rw [hg]; exact Nat.ne_of_lt (blk_lt BN.out)⟩; have BN2 := Aside0.mk (blk_below BN.out hb); clear HB1 BN hb hbox hg; have hcz0 : w2.cell? ⟨gn, 0, none⟩ = some (.int .i64 a0_0) := (blk_cell BN2.out 0).trans rfl; have hcz1 : w2.cell? ⟨gn, 1, none⟩ = some (.int .i64 a0_1) := (blk_cell BN2.out 1).trans rfl; have hcz2 : w2.cell? ⟨gn, 2, none⟩ = some (.int .i64 a0_2) := (blk_cell BN2.out 2).trans rfl; have hcz3 : w2.cell? ⟨gn, 3, none⟩ = some (.slice A0_3 l0_3.length c0_3) := (blk_cell BN2.out 3).trans rfl)
   | (go_at_call 52; refine (net_Copy.calls a0_0 a0_1 a0_2 A0_3 c0_3 l0_3 a0_0 a0_1 a0_2 l0_3 _ ?s1 HC.out HCP.out).mono ?_; (case s1 => exact Kd.C_below HR.out HB2.out); rintro e w3 ⟨vc, rfl, ho, hb⟩; clear hcz0 hcz1 hcz2 hcz3; obtain ⟨Ac, cc, eo⟩ := Kd.R_slice ho; subst eo; have HO := Aside0.mk (Kd.R_lower ho (below_size HB2.out)); have BN3 := Aside0.mk (blk_below BN2.out hb); have BR3 := Aside0.mk (blk_below BR.out hb); have HB3 := Aside0.mk (below_step HB2.out hb); clear ho hb BN2 BR HB2; have hcz0 : w3.cell? ⟨gn, 0, none⟩ = some (.int .i64 a0_0) := (blk_cell BN3.out 0).trans rfl; have hcz1 : w3.cell? ⟨gn, 1, none⟩ = some (.int .i64 a0_1) := (blk_cell BN3.out 1).trans rfl; have hcz2 : w3.cell? ⟨gn, 2, none⟩ = some (.int .i64 a0_2) := (blk_cell BN3.out 2).trans rfl; have hcz3 : w3.cell? ⟨gn, 3, none⟩ = some (.slice A0_3 l0_3.length c0_3) := (blk_cell BN3.out 3).trans rfl; have hfz0 := blk_frozen BN3.out 0; have hfz1 := blk_frozen BN3.out 1; have hfz2 := blk_frozen BN3.out 2; have hfz3 := blk_frozen BN3.out 3)
   | ((with_reducible refine gate_store (t := 27) (p := 1) rfl ?_); refine store_event (t := 27) (p := 1) (v := ?vo_0) (w1 := ((((w3.setCell ⟨gn, 0, none⟩ (.int .i64 a0_0)).setCell ⟨gn, 1, none⟩ (.int .i64 a0_1)).setCell ⟨gn, 2, none⟩ (.int .i64 a0_2)).setCell ⟨gn, 3, none⟩ (.slice Ac l0_3.length cc))) ?hg ?ho ?hn ?hr ?_; (case ho => rfl); (case hg => rfl); (case hn => rfl); (case hr => first | (go_simp; done) | (go_simp; rfl)); intro w4 hw; have hp := put4 (y0 := .int .i64 a0_0) (y1 := .int .i64 a0_1) (y2 := .int .i64 a0_2) (y3 := .slice Ac l0_3.length cc) BN3.out HO.out (by decide) HB3.out GN.out; rw [← hw] at hp; have BR4 : Aside0 (w4.heap[gr]? = some (.cells #[.int .i64 0, .int .i64 0, .int .i64 0, .slice none 0 0] 27 (0, 0))) := ⟨by rw [hw]; exact blk_far (blk_far (blk_far (blk_far BR3.out NB.out.symm _) NB.out.symm _) NB.out.symm _) NB.out.symm _⟩; have BN4 := Aside0.mk hp.1; have HO4 := Aside0.mk hp.2.1; have HB4 := Aside0.mk hp.2.2; clear hw hp hcz0 hcz1 hcz2 hcz3 hfz0 hfz1 hfz2 hfz3 BN3 BR3 HO HB3; have hcz0 : w4.cell? ⟨gn, 0, none⟩ = some (.int .i64 a0_0) := (blk_cell BN4.out 0).trans rfl; have hcz1 : w4.cell? ⟨gn, 1, none⟩ = some (.int .i64 a0_1) := (blk_cell BN4.out 1).trans rfl; have hcz2 : w4.cell? ⟨gn, 2, none⟩ = some (.int .i64 a0_2) := (blk_cell BN4.out 2).trans rfl; have hcz3 : w4.cell? ⟨gn, 3, none⟩ = some (.slice Ac l0_3.length cc) := (blk_cell BN4.out 3).trans rfl; have hfz0 := blk_frozen BN4.out 0; have hfz1 := blk_frozen BN4.out 1; have hfz2 := blk_frozen BN4.out 2; have hfz3 := blk_frozen BN4.out 3)
   | ((with_reducible refine gate_store (t := 3) (p := 11) rfl ?_); refine store_event (t := 3) (p := 11) (v := ?vo_1) (w1 := (w4.setCell ⟨gn, 1, none⟩ (.int .i64 a0_2))) ?hg ?ho ?hn ?hr ?_; (case ho => rfl); (case hg => rfl); (case hn => rfl); (case hr => first | (go_simp; done) | (go_simp; rfl)); intro w5 hw; have BN5 : Aside0 (w5.heap[gn]? = some (.cells #[.int .i64 a0_0, .int .i64 a0_2, .int .i64 a0_2, .slice Ac l0_3.length cc] 27 (0, 0))) := ⟨by rw [hw]; exact blk_put BN4.out 1 (.int .i64 a0_2) rfl⟩; have BR5 : Aside0 (w5.heap[gr]? = some (.cells #[.int .i64 0, .int .i64 0, .int .i64 0, .slice none 0 0] 27 (0, 0))) := ⟨by rw [hw]; exact blk_far BR4.out NB.out.symm _⟩; have HO5 : Aside0 (Kd.R k49 49 w5 w.heap.size (fun _ => True) (.slice Ac l0_3.length cc) l0_3) := ⟨by rw [hw]; exact Kd.R_set HO4.out BN4.out (by decide) 1 _⟩; have HB5 : Aside0 (Below w.heap.size w w5) := ⟨by rw [hw]; exact below_set HB4.out GN.out⟩; clear hw hcz0 hcz1 hcz2 hcz3 hfz0 hfz1 hfz2 hfz3 BN4 BR4 HO4 HB4; have hcz2 : w5.cell? ⟨gn, 2, none⟩ = some (.int .i64 a0_2) := (blk_cell BN5.out 2).trans rfl; have hcz3 : w5.cell? ⟨gn, 3, none⟩ = some (.slice Ac l0_3.length cc) := (blk_cell BN5.out 3).trans rfl; have hfz2 := blk_frozen BN5.out 2)
   | ((with_reducible refine gate_store (t := 3) (p := 12) rfl ?_); refine store_event (t := 3) (p := 12) (v := ?vo_2) (w1 := (w5.setCell ⟨gn, 2, none⟩ (.int .i64 a0_1))) ?hg ?ho ?hn ?hr ?_; (case ho => rfl); (case hg => rfl); (case hn => rfl); (case hr => first | (go_simp; done) | (go_simp; rfl)); intro w6 hw; have BN6 : Aside0 (w6.heap[gn]? = some (.cells #[.int .i64 a0_0, .int .i64 a0_2, .int .i64 a0_1, .slice Ac l0_3.length cc] 27 (0, 0))) := ⟨by rw [hw]; exact blk_put BN5.out 2 (.int .i64 a0_1) rfl⟩; have BR6 : Aside0 (w6.heap[gr]? = some (.cells #[.int .i64 0, .int .i64 0, .int .i64 0, .slice none 0 0] 27 (0, 0))) := ⟨by rw [hw]; exact blk_far BR5.out NB.out.symm _⟩; have HO6 : Aside0 (Kd.R k49 49 w6 w.heap.size (fun _ => True) (.slice Ac l0_3.length cc) l0_3) := ⟨by rw [hw]; exact Kd.R_set HO5.out BN5.out (by decide) 2 _⟩; have HB6 : Aside0 (Below w.heap.size w w6) := ⟨by rw [hw]; exact below_set HB5.out GN.out⟩; clear hw hcz2 hcz3 hfz2 BN5 BR5 HO5 HB5; have hcz3 : w6.cell? ⟨gn, 3, none⟩ = some (.slice Ac l0_3.length cc) := (blk_cell BN6.out 3).trans rfl))
  clear hcz3
  go_loopg [16] (l0_3.length + 1) (fun kq v16 wr => ∃ j : Nat, v16 = .int .i64 j ∧ Aside0 (j + kq = l0_3.length + 1 ∧ 0 < kq) ∧ Aside0 (Kd.R k49 49 wr w.heap.size (fun _ => True) (.slice Ac l0_3.length cc) ((l0_3.take j).map turnArc ++ l0_3.drop j)) ∧ Aside0 (wr.heap[gn]? = some (.cells #[.int .i64 a0_0, .int .i64 a0_2, .int .i64 a0_1, .slice Ac l0_3.length cc] 27 (0, 0))) ∧ Aside0 (wr.heap[gr]? = some (.cells #[.int .i64 0, .int .i64 0, .int .i64 0, .slice none 0 0] 27 (0, 0))) ∧ Aside0 (Below w.heap.size w wr))
  case atStart => exact ⟨0, rfl, ⟨by omega⟩, ⟨by simpa using HO6.out⟩, BN6, BR6, HB6⟩
  case round =>
   clear BN6 BR6 HO6 HB6
   obtain ⟨j, rfl, HK, HO, BN, BR, HB⟩ := hrel
   by_cases hlt : j < l0_3.length
   ·have hll : ((l0_3.take j).map turnArc ++ l0_3.drop j).length = l0_3.length := by rw [List.length_append, List.length_map, List.length_take, List.length_drop]; omega
    obtain ⟨g, cap, hv, hgb, hgl, cl, hgt⟩ := Kd.R_form HO.out (by omega)
    injection hv with hv0 hv1 hv2
    subst hv0
    subst hv2
    obtain ⟨ce, hcl, hM, hcc, hfr⟩ := Kd.R_elem HO.out z49 (j : Int) (by omega) (by omega)
    rw [Int.toNat_natCast, turn_at hlt] at hM
    obtain rfl := k49_openM hM
    have e3 : (k49).sz = 3 := rfl
    obtain ⟨x, hx⟩ : ∃ x, rd_T49 l0_3 (j : Int) = x := ⟨_, rfl⟩
    have hst := turn_step hlt
    have hat := turn_at hlt
    rw [hx] at hcc hst hat
    obtain ⟨ys, hys⟩ : ∃ ys, (l0_3.take j).map turnArc ++ l0_3.drop j = ys := ⟨_, rfl⟩
    obtain ⟨zs, hzs⟩ : ∃ zs, (l0_3.take (j + 1)).map turnArc ++ l0_3.drop (j + 1) = zs := ⟨_, rfl⟩
    rw [hys, hzs] at hst
    rw [hys] at HO hat hv1
    have HST := Aside0.mk hst
    have HAT := Aside0.mk hat
    have HZS := Aside0.mk hzs
    have hx0 : wr.cell? ⟨g, j * 3, none⟩ = some (.int .i64 x.f0) := hcc 0 _ rfl
    have hx1 : wr.cell? ⟨g, j * 3 + 1, none⟩ = some (.int .i64 x.f1) := hcc 1 _ rfl
    have hx2 : wr.cell? ⟨g, j * 3 + 2, none⟩ = some (.int .i64 x.f2) := hcc 2 _ rfl
    have HV1 := Aside0.mk hv1
    have NG : Aside0 (g ≠ gn) := ⟨blk_ne hgt BN.out (by decide)⟩
    have NR : Aside0 (g ≠ gr) := ⟨blk_ne hgt BR.out (by decide)⟩
    have HGL := Aside0.mk hgl
    have HGB := Aside0.mk hgb
    clear hcl hM hcc hfr hst hat hx hys hzs hv1 hll hgb hgl hgt cl HR HC HCP
    have hlt2 : (j : Int) < (l0_3.length : Int) := by omega
    have hj0 : (0 : Int) ≤ (j : Int) := by omega
    go_wp2_with (first
     | ((with_reducible refine gate_dst (N := 4) rfl ?_); refine box_event ?hg (N := 4) ?hd (cs := #[.int .i64 0, .int .i64 0, .int .i64 0]) (t := 49) ?hr ?_; (case hd => rfl); (case hg => rfl); (case hr => first | (go_simp; done) | (go_simp; rfl)); intro ga hg wa hbox hb; have HOa := Aside0.mk (Kd.R_below (Kd.R_elderB HO.out ga (Nat.le_of_eq hg.symm)) hb); have BNa := Aside0.mk (blk_below BN.out hb); have BRa := Aside0.mk (blk_below BR.out hb); have BAa := Aside0.mk hbox; have HBa := Aside0.mk (below_step HB.out hb); have GA : Aside0 (w.heap.size ≤ ga) := ⟨by rw [hg]; exact below_size HB.out⟩; have NGA : Aside0 (g ≠ ga) := ⟨by rw [hg]; exact Nat.ne_of_lt HGL.out⟩; have NNA : Aside0 (gn ≠ ga) := ⟨by rw [hg]; exact Nat.ne_of_lt (blk_lt BN.out)⟩; have NRA : Aside0 (gr ≠ ga) := ⟨by rw [hg]; exact Nat.ne_of_lt (blk_lt BR.out)⟩; clear hb hbox hg HO BN BR HB hx0 hx1 hx2; have ha0 : wa.cell? ⟨ga, 0, none⟩ = some (.int .i64 0) := (blk_cell BAa.out 0).trans rfl; have ha1 : wa.cell? ⟨ga, 1, none⟩ = some (.int .i64 0) := (blk_cell BAa.out 1).trans rfl; have ha2 : wa.cell? ⟨ga, 2, none⟩ = some (.int .i64 0) := (blk_cell BAa.out 2).trans rfl; have hf0 := blk_frozen BAa.out 0; have hf1 := blk_frozen BAa.out 1; have hf2 := blk_frozen BAa.out 2)
     | ((with_reducible refine gate_store (t := 49) (p := 4) rfl ?_); refine store_event (t := 49) (p := 4) (v := ?va) (w1 := (((wa.setCell ⟨ga, 0, none⟩ (.int .i64 x.f0)).setCell ⟨ga, 1, none⟩ (.int .i64 x.f1)).setCell ⟨ga, 2, none⟩ (.int .i64 x.f2))) ?hg ?ho ?hn ?hr ?_; (case ho => rfl); (case hg => rfl); (case hn => rfl); (case hr => first | (go_simp; done) | (go_simp; rfl)); intro wb hw; have HOb : Aside0 (Kd.R k49 49 wb w.heap.size (fun k_ => True ∧ k_ ≠ ga) (.slice (some ⟨g, 0, none⟩) l0_3.length cc) ys) := ⟨by rw [hw]; exact Kd.R_far (Kd.R_far (Kd.R_far HOa.out (p := ⟨ga, 0, none⟩) (fun _ hk => hk.2) _) (p := ⟨ga, 1, none⟩) (fun _ hk => hk.2) _) (p := ⟨ga, 2, none⟩) (fun _ hk => hk.2) _⟩; have BNb : Aside0 (wb.heap[gn]? = some (.cells #[.int .i64 a0_0, .int .i64 a0_2, .int .i64 a0_1, .slice (some ⟨g, 0, none⟩) l0_3.length cc] 27 (0, 0))) := ⟨by rw [hw]; exact blk_far (blk_far (blk_far BNa.out NNA.out _) NNA.out _) NNA.out _⟩; have BRb : Aside0 (wb.heap[gr]? = some (.cells #[.int .i64 0, .int .i64 0, .int .i64 0, .slice none 0 0] 27 (0, 0))) := ⟨by rw [hw]; exact blk_far (blk_far (blk_far BRa.out NRA.out _) NRA.out _) NRA.out _⟩; have BAb : Aside0 (wb.heap[ga]? = some (.cells #[.int .i64 x.f0, .int .i64 x.f1, .int .i64 x.f2] 49 (0, 0))) := ⟨by rw [hw]; exact blk_put (blk_put (blk_put BAa.out 0 _ (cs' := #[.int .i64 x.f0, .int .i64 0, .int .i64 0]) rfl) 1 _ (cs' := #[.int .i64 x.f0, .int .i64 x.f1, .int .i64 0]) rfl) 2 _ rfl⟩; have HBb : Aside0 (Below w.heap.size w wb) := ⟨by rw [hw]; exact below_set (below_set (below_set HBa.out GA.out) GA.out) GA.out⟩; clear hw HOa BNa BRa BAa HBa ha0 ha1 ha2 hf0 hf1 hf2))
    obtain ⟨ce, hcl, hM, hcc, hfr⟩ := Kd.R_elem HOb.out z49 (j : Int) (by omega) (by omega)
    have hM0 := hM
    rw [Int.toNat_natCast, HAT.out] at hM0
    obtain rfl := k49_openM hM0
    have HP := Kd.R_seg HOb.out (j : Int) (by omega) (by omega) (seg := [.int .i64 x.f1, .int .i64 x.f0]) (j := 0) hcl hcc (show 2 ≤ 3 from by decide) (x' := turnArc x) (k49_mkM _ _ _ (turnArc x)) (fun _ hk => hk)
    rw [Int.toNat_natCast, HST.out] at HP
    have HPA := Aside0.mk HP
    have hx0 : wb.cell? ⟨g, j * 3, none⟩ = some (.int .i64 x.f0) := hcc 0 _ rfl
    have hx1 : wb.cell? ⟨g, j * 3 + 1, none⟩ = some (.int .i64 x.f1) := hcc 1 _ rfl
    have hfx0 : wb.frozen? ⟨g, j * 3, none⟩ = false := hfr 0
    have hfx1 : wb.frozen? ⟨g, j * 3 + 1, none⟩ = false := hfr 1
    have ha0 : wb.cell? ⟨ga, 0, none⟩ = some (.int .i64 x.f0) := (blk_cell BAb.out 0).trans rfl
    have ha1 : wb.cell? ⟨ga, 1, none⟩ = some (.int .i64 x.f1) := (blk_cell BAb.out 1).trans rfl
    have hcz3 : wb.cell? ⟨gn, 3, none⟩ = some (.slice (some ⟨g, 0, none⟩) l0_3.length cc) := (blk_cell BNb.out 3).trans rfl
    have hn1 := NG.out
    have hn2 := NGA.out
    have hn3 := NNA.out
    have hn4 := NG.out.symm
    have hn5 := NGA.out.symm
    have hn6 := NNA.out.symm
    clear HP hM hM0 hcc hfr hcl
    go_region
    go_wp2_with fail
    obtain ⟨hk1, hk2⟩ := HK.out
    go_roundg (gk - 1)
    case measure => omega
    case rel => exact ⟨j + 1, succ_val (by have h_ := HL.out; omega), ⟨by omega⟩, ⟨by rw [HZS.out]; exact Kd.R_drew (Kd.R_mono (show Kd.R k49 49 ((wb.setCell ⟨g, j * 3, none⟩ (.int .i64 x.f1)).setCell ⟨g, j * 3 + 1, none⟩ (.int .i64 x.f0)) w.heap.size (fun k_ => True ∧ k_ ≠ ga) (.slice (some ⟨g, 0, none⟩) l0_3.length cc) zs from HPA.out.1) (fun _ _ => trivial))⟩, ⟨blk_drew (blk_far (blk_far BNb.out NG.out.symm _) NG.out.symm _)⟩, ⟨blk_drew (blk_far (blk_far BRb.out NR.out.symm _) NR.out.symm _)⟩, ⟨below_drew (below_set (below_set HBb.out HGB.out) HGB.out)⟩⟩
   ·have hjl : j = l0_3.length := by have := HK.out; omega
    have HO2 : Aside0 (Kd.R k49 49 wr w.heap.size (fun _ => True) (.slice Ac l0_3.length cc) (l0_3.map turnArc)) := ⟨by have h := HO.out; rw [hjl, List.take_length, List.drop_length, List.append_nil] at h; exact h⟩
    clear HO
    have HGN : Aside0 (gr ≠ gn) := ⟨NB.out.symm⟩
    have hge : ¬ ((j : Int) < (l0_3.length : Int)) := by omega
    have hn1 := NB.out
    have hn2 := NB.out.symm
    have hcz0 : wr.cell? ⟨gn, 0, none⟩ = some (.int .i64 a0_0) := (blk_cell BN.out 0).trans rfl
    have hcz1 : wr.cell? ⟨gn, 1, none⟩ = some (.int .i64 a0_2) := (blk_cell BN.out 1).trans rfl
    have hcz2 : wr.cell? ⟨gn, 2, none⟩ = some (.int .i64 a0_1) := (blk_cell BN.out 2).trans rfl
    have hcz3 : wr.cell? ⟨gn, 3, none⟩ = some (.slice Ac l0_3.length cc) := (blk_cell BN.out 3).trans rfl
    have hr0 : wr.cell? ⟨gr, 0, none⟩ = some (.int .i64 0) := (blk_cell BR.out 0).trans rfl
    have hr1 : wr.cell? ⟨gr, 1, none⟩ = some (.int .i64 0) := (blk_cell BR.out 1).trans rfl
    have hr2 : wr.cell? ⟨gr, 2, none⟩ = some (.int .i64 0) := (blk_cell BR.out 2).trans rfl
    have hr3 : wr.cell? ⟨gr, 3, none⟩ = some (.slice none 0 0) := (blk_cell BR.out 3).trans rfl
    have hf0 := blk_frozen BR.out 0
    have hf1 := blk_frozen BR.out 1
    have hf2 := blk_frozen BR.out 2
    have hf3 := blk_frozen BR.out 3
    go_wp2_with fail
    have hp := put4 (y0 := .int .i64 a0_0) (y1 := .int .i64 a0_2) (y2 := .int .i64 a0_1) (y3 := .slice Ac l0_3.length cc) BR.out HO2.out (by decide) HB.out GR.out
    refine bodyPost_ret (results_cell_row rfl _ _ gr 27 #[.int .i64 a0_0, .int .i64 a0_2, .int .i64 a0_1, .slice Ac l0_3.length cc] (0, 0) _ rfl hp.1 Try.underlying27 rfl (by kernel_rfl)) rfl ?_
    exact ⟨_, rfl, hp.2.1, hp.2.2⟩
 ·rw [if_neg hl] at h
  exact absurd h (by simp)
end Go.Proofs.Ytbppeffcikphcaa.PLevelTurned
